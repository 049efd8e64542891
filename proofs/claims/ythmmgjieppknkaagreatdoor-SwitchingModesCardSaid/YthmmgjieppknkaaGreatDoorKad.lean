/- Contracts and plain laws that the statements of this seat share (part Kad). -/
import Derived.Test.YthmmgjieppknkaaGreatDoorKaa
import Derived.Test.YthmmgjieppknkaaGreatDoorKac
import Derived.Deep.RegionHeld3
import Derived.Laws.ResultCell
import Derived.ChangeKeysEq
import Derived.DeepKeys
import Derived.Maps.AppendAt
import Derived.OwnWalk
namespace Go.Proofs.YthmmgjieppknkaaGreatDoor
open Go.RowKit MLab
def allocs (w : World) (L : List Obj) : World := L.foldl World.alloc w
theorem allocs_below (w : World) (L : List Obj) : Below w.heap.size w (allocs w L) := by
  induction L generalizing w with
  | nil => exact Below.refl _ _
  | cons o t ih => exact ((Below.refl _ _).alloc (Nat.le_refl _) o).trans ((ih (w.alloc o)).mono (by simp))
theorem allocs_at (w : World) (L : List Obj) (i : Nat) {o : Obj} (h : L[i]? = some o) : (allocs w L).heap[w.heap.size + i]? = some o := by
  induction L generalizing w i with
  | nil => simp at h
  | cons p t ih =>
    cases i with
    | zero =>
      have e : p = o := by simpa using h
      rw [← e]
      show (allocs (w.alloc p) t).heap[w.heap.size]? = _
      rw [(allocs_below (w.alloc p) t).block w.heap.size (by simp), heap_alloc_new]
    | succ i =>
      have := ih (w.alloc p) i (by simpa using h)
      rw [show w.heap.size + (i + 1) = (w.alloc p).heap.size + i by simp; omega]
      exact this
theorem bel_next {B : Nat} {w0 w w1 : World} {R : Prop} (h : Below B w0 w ∧ R) (k : Below w.heap.size w w1) (hB : B ≤ w0.heap.size) : Below B w0 w1 :=
  h.1.trans (k.mono (Nat.le_trans hB h.1.size))
theorem bcell {B : Nat} {W w1 : World} (hb : Below B W w1) : ∀ b o, b < B → w1.cell? ⟨b, o, none⟩ = W.cell? ⟨b, o, none⟩ := fun b o h => hb.cell (p := ⟨b, o, none⟩) h
end Go.Proofs.YthmmgjieppknkaaGreatDoor
namespace Go.Proofs.YthmmgjieppknkaaGreatDoor
open Go.RowKit MLab
theorem run_index_plain {P : Program} {t e : TypeId} {n : Nat} {cs : Array Value} {j : Nat} {v : Value} {i : TypeInfo} (h : P.underlying t = some (.array n e)) (hi : P.info? e = some i) (hc : P.cellsOf e = 1) (hp : P.plainKey e = true) (hj : j < n) (hx : cs[j]? = some v) (w : World) :
    (Instr.index t (.agg cs) (.int .i64 (j : Int))).run P w = .ok v w := by
  have hb : (0 : Int) ≤ (j : Int) ∧ (j : Int) < (n : Int) := by omega
  have hs := run_sizeOf w hi
  rw [hc] at hs
  have h2 := run_part_plain w hp hx
  simp [part, go_sem] at h2
  simp [Instr.index, run_underlying h, asIntOf, hb, hj, hs, go_sem]
  exact h2
theorem idx_int {n : Nat} {t : TypeId} {cs : Array Value} {j : Nat} {v : Value} (h : Tryz.prog.underlying t = some (.array n 3)) (hj : j < n) (hx : cs[j]? = some v) (w : World) :
    (Instr.index t (.agg cs) (.int .i64 (j : Int))).run Tryz.prog w = .ok v w := by
  obtain ⟨i, hi⟩ : ∃ i, Tryz.prog.info? 3 = some i := Option.isSome_iff_exists.1 (by kernel_rfl)
  exact run_index_plain h hi (by kernel_rfl) (by kernel_rfl) hj hx w
end Go.Proofs.YthmmgjieppknkaaGreatDoor
namespace Go.Proofs.YthmmgjieppknkaaGreatDoor
open Go.RowKit MLab
theorem cells_rat : Tryz.prog.cellsOf 65 = 1 := by kernel_rfl
theorem lits_rat (D : Nat) (s : ByteArray) (h : s.size ≤ maxLen) : Tryz.prog.keyLits (D + 1) 65 [.string s] = some [.string s.data.toList] := by
  unfold Program.keyLits
  rw [Tryz.underlying65]
  simp [h]
theorem run_self {t : TypeId} {m : Nat} (hk : Tryz.prog.keyTypeAt m t = true) (hm : m ≤ 10000) (v : Value) {D : Nat} {l : List Lit} (hf : v.formed Tryz.prog t = true) (hl : Tryz.prog.keyLits D t v.cells.toList = some l) (w : World) :
    (Op.equalIn 10000 t v v).run Tryz.prog w = .ok true w := by
  obtain ⟨r, h1, h2⟩ := run_equalIn_deep (10000 - m) m t hk w D D v v l l hf hf hl hl
  rw [show 10000 - m + m = 10000 by omega] at h1
  rw [h1, h2.2 rfl]
end Go.Proofs.YthmmgjieppknkaaGreatDoor

namespace Go.Proofs.YthmmgjieppknkaaGreatDoor
open Go.RowKit MLab
def SlL (w : World) (v : Value) (L : List Value) : Prop :=
  ∃ (A : Option Addr) (c : Nat), v = .slice A L.length c ∧ L.length ≤ c ∧ (0 < L.length → ∃ g o, A = some ⟨g, o, none⟩ ∧ ∀ (p : Nat) (x : Value), L[p]? = some x → w.cell? ⟨g, o + p, none⟩ = some x)
theorem SlL.nil (w : World) : SlL w (.slice none 0 0) [] := ⟨none, 0, rfl, Nat.le_refl _, fun h => absurd h (by simp)⟩
theorem SlL.below {w w' : World} {v : Value} {L : List Value} (h : SlL w v L) (hb : Below w.heap.size w w') : SlL w' v L := by
  obtain ⟨A, c, hv, hcap, hc⟩ := h
  refine ⟨A, c, hv, hcap, fun h0 => ?_⟩
  obtain ⟨g, o, hA, hcell⟩ := hc h0
  exact ⟨g, o, hA, fun p x hp => (bcell hb _ _ (block_lt_of_cell (hcell p x hp))).trans (hcell p x hp)⟩
theorem SlL.kept {w w' : World} {v : Value} {L : List Value} {B : Nat} (h : SlL w v L) (hb : Below B w w') (hB : ∀ g o len c, v = .slice (some ⟨g, o, none⟩) len c → g < B) : SlL w' v L := by
  obtain ⟨A, c, hv, hcap, hc⟩ := h
  refine ⟨A, c, hv, hcap, fun h0 => ?_⟩
  obtain ⟨g, o, hA, hcell⟩ := hc h0
  subst hA
  exact ⟨g, o, rfl, fun p x hp => (bcell hb _ _ (hB g o _ _ hv)).trans (hcell p x hp)⟩
theorem SlL.grown {w w' : World} {v : Value} {L : List Value} {row : Option Nat} (h : SlL w v L) (hb : w.grownBy w' row) (hr : ∀ g o len c, v = .slice (some ⟨g, o, none⟩) len c → some g ≠ row) : SlL w' v L := by
  obtain ⟨A, c, hv, hcap, hc⟩ := h
  refine ⟨A, c, hv, hcap, fun h0 => ?_⟩
  obtain ⟨g, o, hA, hcell⟩ := hc h0
  subst hA
  refine ⟨g, o, rfl, fun p x hp => ?_⟩
  have h1 := hcell p x hp
  have hlt : g < w.heap.size := block_lt_of_cell h1
  refine Eq.trans ?_ h1
  have h2 := hb.block g hlt (hr g o _ _ hv)
  simp only [World.cell?]
  rw [h2]
theorem SlL.shape {w : World} {v : Value} {L : List Value} (h : SlL w v L) : ∃ A c, v = .slice A L.length c := by
  obtain ⟨A, c, hv, _⟩ := h
  exact ⟨A, c, hv⟩
theorem SlL.of_row {w : World} {base n : Nat} {e : TypeId} {v : Value} {L : List Value} (h : w.ownsRow base e 1 v n L) (hn : n = L.length) : SlL w v L := by
  subst hn
  rcases h.2 with ⟨rfl, h0⟩ | ⟨g, cap, cur, rfl, hb, hgg, hn, hcap, hsz, htake⟩
  · exact ⟨none, 0, by rw [h0], by omega, fun h => absurd h (by omega)⟩
  · refine ⟨some ⟨g, 0, none⟩, cap, rfl, by omega, fun h0 => ⟨g, 0, rfl, fun p x hp => ?_⟩⟩
    have hpl : p < L.length := (List.getElem?_eq_some_iff.1 hp).1
    have h1 := hp
    rw [← htake, List.getElem?_take, if_pos (by omega)] at h1
    have h2 : cur[p]? = some x := by simpa using h1
    refine (Blk.cell (t := e) (cs := cur) hgg (0 + p)).trans ?_
    rw [Nat.zero_add]; exact h2
theorem SlL.drop {w : World} {A : Option Addr} {len c k : Nat} {L : List Value} (h : SlL w (.slice A len c) L) (hk : k ≤ len) : SlL w (.slice (A.map fun x => x.add k) (len - k) (c - k)) (L.drop k) := by
  obtain ⟨A2, c2, hv, hcap, hcell⟩ := h
  cases hv
  refine ⟨_, c - k, by rw [List.length_drop], by rw [List.length_drop]; omega, fun h0 => ?_⟩
  rw [List.length_drop] at h0
  obtain ⟨g, o, rfl, hce⟩ := hcell (by omega)
  refine ⟨g, o + k, by simp [Addr.add], fun p x hp => ?_⟩
  rw [List.getElem?_drop] at hp
  rw [Nat.add_assoc]; exact hce _ _ hp
theorem SlL.drop_cap {w : World} {A : Option Addr} {len c : Nat} {L : List Value} (h : SlL w (.slice A len c) L) (hk : c ≤ len) : SlL w (.slice A (len - c) (c - c)) (L.drop c) := by
  obtain ⟨A2, c2, hv, hcap, hcell⟩ := h
  cases hv
  have : L.drop c = [] := List.drop_eq_nil_of_le hcap
  rw [this]
  refine ⟨A, c - c, by rw [show L.length - c = 0 by omega]; rfl, by simp, fun h0 => absurd h0 (by simp)⟩
theorem SlL.cell {w : World} {g o len c : Nat} {L : List Value} {p : Nat} {x : Value} (h : SlL w (.slice (some ⟨g, o, none⟩) len c) L) (hp : L[p]? = some x) : w.cell? ⟨g, o + p, none⟩ = some x := by
  obtain ⟨A, c2, hv, _, hc⟩ := h
  obtain ⟨g2, o2, hA, hcell⟩ := hc (by have := (List.getElem?_eq_some_iff.1 hp).1; omega)
  cases hv
  cases hA
  exact hcell p x hp
section
variable {P : Program}
theorem run_append_sl (w : World) (base : Nat) (t ty e : TypeId) (i : TypeInfo) (z : Value) (bytes : Nat) (ht : P.underlying t = some (.slice e)) (hi : P.info? e = some i) (hz : i.zero = some z)
    (hsize : i.size = 1) (hby : i.bytes = bytes) (hzs : z.cells.size = 1) (v : Value) (n : Nat) (xs : List Value) (hown : w.ownsRow base e 1 v n xs) (u : Value) (L : List Value) (hr : SlL w u L)
    (h1 : ∀ x ∈ L, x.oneCell' = true) (h63 : n + L.length ≤ maxLen) (hbytes : (n + L.length) * bytes ≤ 140737488355328) (hbase : base ≤ w.heap.size) :
    ∃ v' w', (Builtin.append_ #[t, t] ty #[v, u]).run P w = .ok v' w' ∧ w'.ownsRow base e 1 v' (n + L.length) (xs ++ L) ∧ w.grownBy w' v.ownBlock := by
  obtain ⟨A, c, rfl, hcap, hce⟩ := hr
  cases A with
  | none =>
    have h0 : L = [] := by
      cases L with
      | nil => rfl
      | cons a b => obtain ⟨g, o, h, _⟩ := hce (by simp); cases h
    subst h0
    refine ⟨v, w, ?_, by simpa using hown, World.grownBy.refl w _⟩
    rcases hown.2 with ⟨rfl, rfl⟩ | ⟨g, cap, cur, rfl, _, _, hnc, _⟩
    · simp [Builtin.append_, run_underlying ht, sizeOf, typeInfo, hi, Builtin.lenOf, Builtin.firstCells]
    · simp [Builtin.append_, run_underlying ht, sizeOf, typeInfo, hi, Builtin.lenOf, Builtin.firstCells, hnc, storeCells]
  | some a =>
    have hnews : ∀ j x, L[j]? = some x → w.cell? (a.add j) = some x := fun j x hj => by
      obtain ⟨g, o, h, hc⟩ := hce (by have := (List.getElem?_eq_some_iff.1 hj).1; omega)
      cases h
      have h2 := hc j x hj
      rw [show (⟨g, o, none⟩ : Addr).add j = ⟨g, o + j, none⟩ by unfold Addr.add; split <;> simp_all]; exact h2
    obtain ⟨v', w', hrun, h2, h3, _, _⟩ := run_append_own_at (P := P) w base t ty e i z 1 bytes ht hi hz hsize hby hzs (by omega) v n xs hown a L.length c L (by omega) hnews h1 h63 hbytes hbase
    exact ⟨v', w', hrun, h2, h3⟩
theorem wpList_append_sl (w : World) {ops : Array Oper} {rest : List Oper} {o : Oper} {a : Act} {Q : Exit → Act → World → Prop} (hgd : o.guard = none) (s x : Operand) (t : TypeId)
    (ho : o.op = .call { callee := .builtin .append, args := #[s, x], argTypes := #[t, t] })
    (base : Nat) (e : TypeId) (i : TypeInfo) (z : Value) (bytes : Nat) (ht : P.underlying t = some (.slice e)) (hi : P.info? e = some i) (hz : i.zero = some z)
    (hsize : i.size = 1) (hby : i.bytes = bytes) (hzs : z.cells.size = 1) (v : Value) (n : Nat) (xs : List Value) (hs : a.eval s = v) (hown : w.ownsRow base e 1 v n xs) (u : Value) (L : List Value) (hx : a.eval x = u) (hr : SlL w u L)
    (h1 : ∀ x ∈ L, x.oneCell' = true) (h63 : n + L.length ≤ maxLen) (hbytes : (n + L.length) * bytes ≤ 140737488355328) (hbase : base ≤ w.heap.size)
    (h : ∀ v' w', w'.ownsRow base e 1 v' (n + L.length) (xs ++ L) → w.grownBy w' v.ownBlock → wpList P ops Q rest (a.put o.dst v') w') : wpList P ops Q (o :: rest) a w := by
  refine wpList_plain hgd fun K hK => ?_
  obtain ⟨v', w', hrun, h2, h3⟩ := run_append_sl (P := P) w base t o.type e i z bytes ht hi hz hsize hby hzs v n xs hown u L hr h1 h63 hbytes hbase
  unfold Oper.wp execOp
  simp only [ho, resolve, invoke, builtin, Sem.run_bind, Sem.run_pure, Result.andThen_ok, List.map_toArray, List.map_cons, List.map_nil, hs, hx, hrun]
  exact hK _ _ (h v' w' h2 h3)
end
def bcl (l : List Bool) : List Value := l.map Value.bool
def zcl (l : List Int) : List Value := l.map (Value.int .i64)
theorem bcl_len (l : List Bool) : (bcl l).length = l.length := by simp [bcl]
theorem zcl_len (l : List Int) : (zcl l).length = l.length := by simp [zcl]
theorem bcl_snoc (l : List Bool) (b : Bool) : bcl l ++ [.bool b] = bcl (l ++ [b]) := by simp [bcl]
theorem zcl_snoc (l : List Int) (z : Int) : zcl l ++ [.int .i64 z] = zcl (l ++ [z]) := by simp [zcl]
theorem bcl_at {l : List Bool} {p : Nat} {b : Bool} (h : l[p]? = some b) : (bcl l)[p]? = some (.bool b) := by simp [bcl, h]
theorem zcl_at {l : List Int} {p : Nat} {z : Int} (h : l[p]? = some z) : (zcl l)[p]? = some (.int .i64 z) := by simp [zcl, h]
end Go.Proofs.YthmmgjieppknkaaGreatDoor

namespace Go.Proofs.YthmmgjieppknkaaGreatDoor
open Go.RowKit MLab
theorem info_int : (Tryz.prog.info? 3).map (fun i => (i.zero, i.size, i.bytes)) = some (some (.int .i64 0), 1, 8) := by kernel_rfl
def icl (l : List Nat) : List Value := l.map fun (x : Nat) => .int .i64 (x : Int)
def IxL (w : World) (v : Value) (l : List Nat) : Prop :=
  ∃ (A : Option Addr) (c : Nat), v = .slice A l.length c ∧ (0 < l.length → ∃ g, A = some ⟨g, 0, none⟩ ∧ ∀ (p : Nat) (x : Nat), l[p]? = some x → w.cell? ⟨g, p, none⟩ = some (.int .i64 (x : Int)))
theorem IxL.nil (w : World) : IxL w (.slice none 0 0) [] := ⟨none, 0, rfl, fun h => absurd h (by simp)⟩
theorem IxL.below {w w' : World} {v : Value} {l : List Nat} (h : IxL w v l) (hb : Below w.heap.size w w') : IxL w' v l := by
  obtain ⟨A, c, hv, hc⟩ := h
  refine ⟨A, c, hv, fun h0 => ?_⟩
  obtain ⟨g, hA, hcell⟩ := hc h0
  exact ⟨g, hA, fun p x hp => (bcell hb _ _ (block_lt_of_cell (hcell p x hp))).trans (hcell p x hp)⟩
theorem IxL.shape {w : World} {v : Value} {l : List Nat} (h : IxL w v l) : ∃ A c, v = .slice A l.length c := by
  obtain ⟨A, c, hv, _⟩ := h
  exact ⟨A, c, hv⟩
theorem IxL.of_row {w : World} {base n : Nat} {v : Value} {l : List Nat} (h : w.ownsRow base 3 1 v n (icl l)) (hn : n = l.length) : IxL w v l := by
  subst hn
  rcases h.2 with ⟨rfl, h0⟩ | ⟨g, cap, cur, rfl, hb, hgg, hn, hcap, hsz, htake⟩
  · exact ⟨none, 0, by rw [h0], fun h => absurd h (by omega)⟩
  · refine ⟨some ⟨g, 0, none⟩, cap, rfl, fun h0 => ⟨g, rfl, fun p x hp => ?_⟩⟩
    have hpl : p < l.length := (List.getElem?_eq_some_iff.1 hp).1
    have h1 : (icl l)[p]? = some (.int .i64 (x : Int)) := by simp [icl, hp]
    rw [← htake, List.getElem?_take, if_pos (by omega)] at h1
    have h2 : cur[p]? = some (.int .i64 (x : Int)) := by simpa using h1
    refine (Blk.cell (t := 3) (cs := cur) hgg p).trans ?_
    exact h2
end Go.Proofs.YthmmgjieppknkaaGreatDoor

namespace Go.Proofs.YthmmgjieppknkaaGreatDoor
open Go.RowKit MLab
def Pts (w : World) (v : Value) (L : List (Int × Int)) : Prop :=
  ∃ (A : Option Addr) (c : Nat), v = .slice A L.length c ∧ (0 < L.length → ∃ b off, A = some ⟨b, off, none⟩ ∧ ∀ i p, L[i]? = some p → w.cell? ⟨b, off + i * 2, none⟩ = some (.int .i64 p.1) ∧ w.cell? ⟨b, off + i * 2 + 1, none⟩ = some (.int .i64 p.2))
theorem Pts.below {w w' : World} {v : Value} {L : List (Int × Int)} (h : Pts w v L) (hb : Below w.heap.size w w') : Pts w' v L := by
  obtain ⟨A, c, hv, hc⟩ := h
  refine ⟨A, c, hv, fun h0 => ?_⟩
  obtain ⟨b, off, hA, hcell⟩ := hc h0
  refine ⟨b, off, hA, fun i l hi => ?_⟩
  obtain ⟨h0, h1⟩ := hcell i l hi
  exact ⟨(hb.cell (p := ⟨b, off + i * 2, none⟩) (block_lt_of_cell h0)).trans h0, (hb.cell (p := ⟨b, off + i * 2 + 1, none⟩) (block_lt_of_cell h1)).trans h1⟩
theorem Pts.new (w : World) (L : List (Int × Int)) (t : TypeId) (cs : Array Value) (h : ∀ i p, L[i]? = some p → cs[i * 2]? = some (.int .i64 p.1) ∧ cs[i * 2 + 1]? = some (.int .i64 p.2)) (c : Nat) :
    Pts (w.alloc (.cells cs t)) (.slice (some ⟨w.heap.size, 0, none⟩) L.length c) L := by
  refine ⟨_, c, rfl, fun _ => ⟨w.heap.size, 0, rfl, fun i p hi => ?_⟩⟩
  have hb := Blk.new w t cs
  simp only [Nat.zero_add, hb.cell]
  exact h i p hi
def Sps (w : World) (v : Value) (L : List (Int × Int × Int)) : Prop :=
  ∃ (A : Option Addr) (c : Nat), v = .slice A L.length c ∧ (0 < L.length → ∃ b off, A = some ⟨b, off, none⟩ ∧ ∀ i p, L[i]? = some p → w.cell? ⟨b, off + i * 3, none⟩ = some (.int .i64 p.1) ∧ w.cell? ⟨b, off + i * 3 + 1, none⟩ = some (.int .i64 p.2.1) ∧ w.cell? ⟨b, off + i * 3 + 2, none⟩ = some (.int .i64 p.2.2))
theorem Sps.below {w w' : World} {v : Value} {L : List (Int × Int × Int)} (h : Sps w v L) (hb : Below w.heap.size w w') : Sps w' v L := by
  obtain ⟨A, c, hv, hc⟩ := h
  refine ⟨A, c, hv, fun h0 => ?_⟩
  obtain ⟨b, off, hA, hcell⟩ := hc h0
  refine ⟨b, off, hA, fun i l hi => ?_⟩
  obtain ⟨h0, h1, h2⟩ := hcell i l hi
  exact ⟨(hb.cell (p := ⟨b, off + i * 3, none⟩) (block_lt_of_cell h0)).trans h0, (hb.cell (p := ⟨b, off + i * 3 + 1, none⟩) (block_lt_of_cell h1)).trans h1, (hb.cell (p := ⟨b, off + i * 3 + 2, none⟩) (block_lt_of_cell h2)).trans h2⟩
theorem Sps.new (w : World) (L : List (Int × Int × Int)) (t : TypeId) (cs : Array Value) (h : ∀ i p, L[i]? = some p → cs[i * 3]? = some (.int .i64 p.1) ∧ cs[i * 3 + 1]? = some (.int .i64 p.2.1) ∧ cs[i * 3 + 2]? = some (.int .i64 p.2.2)) (c : Nat) :
    Sps (w.alloc (.cells cs t)) (.slice (some ⟨w.heap.size, 0, none⟩) L.length c) L := by
  refine ⟨_, c, rfl, fun _ => ⟨w.heap.size, 0, rfl, fun i p hi => ?_⟩⟩
  have hb := Blk.new w t cs
  simp only [Nat.zero_add, hb.cell]
  exact h i p hi
end Go.Proofs.YthmmgjieppknkaaGreatDoor
