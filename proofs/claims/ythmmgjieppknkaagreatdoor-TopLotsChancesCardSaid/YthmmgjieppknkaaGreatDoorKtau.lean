/- Contracts and plain laws that the statements of this seat share (part Ktau). -/
import Derived.Test.YthmmgjieppknkaaGreatDoorKtaa
import Derived.Test.YthmmgjieppknkaaGreatDoorKtab
import Derived.Test.YthmmgjieppknkaaGreatDoorKtac
import Derived.Test.YthmmgjieppknkaaGreatDoorKtad
import Derived.Test.YthmmgjieppknkaaGreatDoorKtaf
import Derived.Test.YthmmgjieppknkaaGreatDoorKtag
import Derived.Test.YthmmgjieppknkaaGreatDoorKtah
import Derived.Test.YthmmgjieppknkaaGreatDoorKtai
import Derived.Test.YthmmgjieppknkaaGreatDoorKtal
import Derived.Test.YthmmgjieppknkaaGreatDoorKtam
import Derived.Test.YthmmgjieppknkaaGreatDoorKtas
import Derived.Test.YthmmgjieppknkaaGreatDoorKtat
import Derived.Deep.AppendLies
import Derived.DeepKeys4
namespace Go.Proofs.YthmmgjieppknkaaGreatDoor
open Go.RowKit MLab
def CoV (w : World) (v : Value) (c : Cr) : Prop := ∃ sl rs, v = .agg #[.int .i64 (c.st.mode : Int), .int .i64 (c.st.run : Int), sl, .int .i64 (c.st.rej : Int), rs, .int .i64 (c.eff : Int)] ∧ SlL w sl (bcl c.st.last) ∧ SlL w rs (bcl c.res)
def WentP (w : World) (g : Cr ⊕ (Nat × Int)) (e : Ending) (w' : World) : Prop :=
  match g with
  | .inl c => ∃ u, e = .returned (.tuple #[u, .int .i64 0, .int .i64 0]) ∧ CoV w' u c ∧ Below w.heap.size w w'
  | .inr (i, z) => e = .returned (.tuple #[.agg #[.int .i64 0, .int .i64 0, .slice none 0 0, .int .i64 0, .slice none 0 0, .int .i64 0], .int .i64 (i : Int), .int .i64 z]) ∧ Below w.heap.size w w'
theorem WentP.err {w w' : World} {g : Cr ⊕ (Nat × Int)} {i : Nat} {z : Int} {e : Ending} (hg : g = .inr (i, z)) (h : e = .returned (.tuple #[.agg #[.int .i64 0, .int .i64 0, .slice none 0 0, .int .i64 0, .slice none 0 0, .int .i64 0], .int .i64 (i : Int), .int .i64 z])) (hb : Below w.heap.size w w') : WentP w g e w' := by
  subst hg; exact ⟨h, hb⟩
theorem WentP.good {w w' : World} {g : Cr ⊕ (Nat × Int)} {c : Cr} {u : Value} {e : Ending} (hg : g = .inl c) (h : e = .returned (.tuple #[u, .int .i64 0, .int .i64 0])) (h1 : CoV w' u c) (hb : Below w.heap.size w w') : WentP w g e w' := by
  subst hg; exact ⟨u, h, h1, hb⟩
end Go.Proofs.YthmmgjieppknkaaGreatDoor

namespace Go.Proofs.YthmmgjieppknkaaGreatDoor
open Go.RowKit Go.Maps MLab
theorem pt_law : WideMaps.KeyLaw Tryz.prog 105 := deep_law_laid (by kernel_rfl) (m := 2) (by omega) (of_decide_eq_true (by kernel_rfl)) (by kernel_rfl) (by kernel_rfl)
theorem cells_int : Tryz.prog.cellsOf 3 = 1 := by kernel_rfl
theorem cells_pt : Tryz.prog.cellsOf 105 = 4 := by kernel_rfl
theorem lits_int (D : Nat) (z : Int) (h : (Lit.int .i64 z).wf = true) : Tryz.prog.keyLits (D + 1) 3 [.int .i64 z] = some [.int .i64 z] := by
  unfold Program.keyLits
  rw [Tryz.underlying3]
  simp [h]
theorem wf_small (n : Nat) (h : n ≤ 1000) : (Lit.int .i64 (n : Int)).wf = true := by
  simp [Lit.wf, IntKind.min, IntKind.max, IntKind.signed, IntKind.bits]; omega
theorem lits_pt (D : Nat) (a b c d : Int) (ha : (Lit.int .i64 a).wf = true) (hb : (Lit.int .i64 b).wf = true) (hc : (Lit.int .i64 c).wf = true) (hd : (Lit.int .i64 d).wf = true) :
    Tryz.prog.keyLits (D + 2) 105 [.int .i64 a, .int .i64 b, .int .i64 c, .int .i64 d] = some [.int .i64 a, .int .i64 b, .int .i64 c, .int .i64 d] := by
  unfold Program.keyLits
  rw [Tryz.underlying105]
  simp only []
  rw [if_pos (by rw [cells_pt]; exact ⟨rfl, by simp⟩)]
  simp [cells_int, lits_int _ _ ha, lits_int _ _ hb, lits_int _ _ hc, lits_int _ _ hd]
theorem size_types : ∃ D, Tryz.prog.types.size + 1 = D + 2 := ⟨Tryz.prog.types.size - 1, by have : 1 ≤ Tryz.prog.types.size := of_decide_eq_true (by kernel_rfl); omega⟩
theorem pt_key (p : Pt) (hp : OkP p) : ∃ l, keyOf Tryz.prog 105 (ptV p) = some l := by
  obtain ⟨a, b, c, d⟩ := p
  obtain ⟨h1, h2, h3, h4, h5, -, -⟩ := hp
  simp only at h1 h2 h3 h4 h5
  obtain ⟨D, hD⟩ := size_types
  unfold ptV keyOf
  rw [Tryz.underlying105]
  simp only []
  have hf : (Value.agg #[Value.int .i64 (a : Int), .int .i64 (b : Int), .int .i64 (c : Int), .int .i64 (d : Int)]).formed Tryz.prog 105 = true := by
    simp [Value.formed, Tryz.underlying105, cells_pt]
  rw [if_pos (by rw [show Tryz.prog.keyType 105 = true by kernel_rfl, hf]; rfl), hD]
  have hl := lits_pt D (a : Int) (b : Int) (c : Int) (d : Int) (wf_small a (by omega)) (wf_small b (by omega)) (wf_small c (by omega)) (wf_small d (by omega))
  exact ⟨_, by
    show Option.map _ (Tryz.prog.keyLits (D + 2) 105 [.int .i64 (a : Int), .int .i64 (b : Int), .int .i64 (c : Int), .int .i64 (d : Int)]) = _
    rw [hl]; rfl⟩
def ptKind : KeyKind Tryz.prog 105 Pt where
  lay := ptV
  ok := OkP
  keyed := Keyed.of_law pt_law
  isKey := pt_key
  inj := fun p q _ _ h => by
    obtain ⟨a, b, c, d⟩ := p
    obtain ⟨a2, b2, c2, d2⟩ := q
    simp [ptV] at h
    obtain ⟨h1, h2, h3, h4⟩ := h
    have e1 : a = a2 := by omega
    have e2 : b = b2 := by omega
    have e3 : c = c2 := by omega
    have e4 : d = d2 := by omega
    rw [e1, e2, e3, e4]
def modeKind : KeyKind Tryz.prog 3 Nat where
  lay := fun m => .int .i64 (m : Int)
  ok := fun m => m ≤ 3
  keyed := int_keyed Tryz.underlying3
  isKey := fun m hm => ⟨_, keyOf_int_mk Tryz.underlying3 (wf_small m (by omega))⟩
  inj := fun p q _ _ h => by
    simp only [Value.int.injEq, true_and] at h
    omega
end Go.Proofs.YthmmgjieppknkaaGreatDoor

namespace Go.Proofs.YthmmgjieppknkaaGreatDoor
open Go.RowKit Go.Maps MLab
def NR (v sl : Value) : Prop := ∀ g o n c, sl = .slice (some ⟨g, o, none⟩) (n + 1) c → some g ≠ v.ownBlock
theorem NR.zero (v : Value) (A : Option Addr) (c : Nat) : NR v (.slice A 0 c) := fun g o n c h => by simp at h
theorem NR.nil (sl : Value) (A : Option Addr) (n c : Nat) (h : A = none) : NR (.slice A n c) sl := fun g o n c _ e => by subst h; simp [Value.ownBlock] at e
theorem SlL.off {w w' : World} {v sl : Value} {l : List Bool} (h : SlL w sl (bcl l)) (hn : NR v sl) (hg : w.grownBy w' v.ownBlock) : SlL w' sl (bcl l) := by
  obtain ⟨A, c, rfl, hcap, hc⟩ := h
  refine ⟨A, c, rfl, hcap, fun h0 => ?_⟩
  obtain ⟨g, o, rfl, hcell⟩ := hc h0
  refine ⟨g, o, rfl, fun p x hp => ?_⟩
  have h1 := hcell p x hp
  refine Eq.trans ?_ h1
  obtain ⟨m, hm⟩ : ∃ m, (bcl l).length = m + 1 := ⟨(bcl l).length - 1, by omega⟩
  have hne := hn g o m c (by rw [hm])
  exact World.cell?_of_block (hg.block g (block_lt_of_cell h1) hne)
def ChR (w : World) (base : Nat) (v : Value) (L : List (Sw × Rat)) : Prop := ∃ xs, w.ownsRow base 127 5 v L.length xs ∧ ∀ (i : Nat) (x : Sw) (p : Rat), L[i]? = some (x, p) →
  ∃ A n c, (xs[i * 5]? = some (.int .i64 (x.mode : Int)) ∧ xs[i * 5 + 1]? = some (.int .i64 (x.run : Int)) ∧ xs[i * 5 + 2]? = some (.slice A n c) ∧ xs[i * 5 + 3]? = some (.int .i64 (x.rej : Int)) ∧ xs[i * 5 + 4]? = some (tv p)) ∧ SlL w (.slice A n c) (bcl x.last) ∧ NR v (.slice A n c)
theorem ChR.nil (w : World) (base : Nat) : ChR w base (.slice none 0 0) [] := ⟨[], World.ownsRow_nil _ _ _ _, fun i x p h => by simp at h⟩
theorem ChR.below {w w' : World} {base : Nat} {v : Value} {L : List (Sw × Rat)} (h : ChR w base v L) (hb : Below w.heap.size w w') : ChR w' base v L := by
  obtain ⟨xs, ho, hx⟩ := h
  refine ⟨xs, owns_below ho hb, fun i x p hi => ?_⟩
  obtain ⟨A, n, c, a, b, d⟩ := hx i x p hi
  exact ⟨A, n, c, a, b.below hb, d⟩
theorem ChR.base {w : World} {base b2 : Nat} {v : Value} {L : List (Sw × Rat)} (h : ChR w base v L) (hb : b2 ≤ base) : ChR w b2 v L := by
  obtain ⟨xs, ho, hx⟩ := h
  refine ⟨xs, ⟨ho.1, ?_⟩, hx⟩
  rcases ho.2 with h | ⟨g, cap, cur, a, b, d⟩
  · exact .inl h
  · exact .inr ⟨g, cap, cur, a, Nat.le_trans hb b, d⟩
theorem ChR.shape {w : World} {base : Nat} {v : Value} {L : List (Sw × Rat)} (h : ChR w base v L) : ∃ A c, v = .slice A L.length c := by
  obtain ⟨xs, ho, _⟩ := h
  rcases ho.2 with ⟨rfl, h0⟩ | ⟨g, cap, cur, rfl, _⟩
  · exact ⟨none, 0, by rw [h0]⟩
  · exact ⟨_, cap, rfl⟩
theorem ChR.at {w : World} {base g n cap : Nat} {L : List (Sw × Rat)} (h : ChR w base (.slice (some ⟨g, 0, none⟩) n cap) L) {i : Nat} {x : Sw} {p : Rat} (hi : L[i]? = some (x, p)) :
    ∃ A m c, (w.cell? ⟨g, i * 5, none⟩ = some (.int .i64 (x.mode : Int)) ∧ w.cell? ⟨g, i * 5 + 1, none⟩ = some (.int .i64 (x.run : Int)) ∧ w.cell? ⟨g, i * 5 + 2, none⟩ = some (.slice A m c) ∧ w.cell? ⟨g, i * 5 + 3, none⟩ = some (.int .i64 (x.rej : Int)) ∧ w.cell? ⟨g, i * 5 + 4, none⟩ = some (tv p)) ∧
      SlL w (.slice A m c) (bcl x.last) ∧ NR (.slice (some ⟨g, 0, none⟩) n cap) (.slice A m c) ∧ w.frozen? ⟨g, i * 5 + 4, none⟩ = false := by
  obtain ⟨xs, ho, hx⟩ := h
  obtain ⟨A, m, c, ⟨a0, a1, a2, a3, a4⟩, b, d⟩ := hx i x p hi
  rcases ho.2 with ⟨h1, _⟩ | ⟨g2, cap2, cur, hv, hb, hg, hn, hcap, hsz, htake⟩
  · simp at h1
  · simp only [Value.slice.injEq, Option.some.injEq, Addr.mk.injEq] at hv
    obtain ⟨⟨rfl, _⟩, hnn, rfl⟩ := hv
    have hc : ∀ k u, xs[k]? = some u → w.cell? ⟨g, k, none⟩ = some u := fun k u hk => by
      rw [cell_of_row w g k cur _ _ hg]
      rw [← htake, List.getElem?_take] at hk
      split at hk
      · simpa using hk
      · cases hk
    exact ⟨A, m, c, ⟨hc _ _ a0, hc _ _ a1, hc _ _ a2, hc _ _ a3, hc _ _ a4⟩, b, d, by simp [World.frozen?, hg]⟩
theorem ChR.put {w : World} {base g n cap : Nat} {L : List (Sw × Rat)} (h : ChR w base (.slice (some ⟨g, 0, none⟩) n cap) L) {i : Nat} {x : Sw} {p : Rat} (hi : L[i]? = some (x, p)) (q : Rat) :
    ChR (w.setCell ⟨g, i * 5 + 4, none⟩ (tv q)) base (.slice (some ⟨g, 0, none⟩) n cap) (L.set i (x, q)) := by
  obtain ⟨xs, ho, hx⟩ := h
  have hli : i < L.length := (List.getElem?_eq_some_iff.1 hi).1
  have hgr : w.grownBy (w.setCell ⟨g, i * 5 + 4, none⟩ (tv q)) (Value.slice (some ⟨g, 0, none⟩) n cap).ownBlock := only_setCell (only_refl w (some g)) (.inl rfl) _
  rcases ho.2 with ⟨h1, _⟩ | ⟨g2, cap2, cur, hv, hb, hg, hn, hcap, hsz, htake⟩
  · simp at h1
  · simp only [Value.slice.injEq, Option.some.injEq, Addr.mk.injEq] at hv
    obtain ⟨⟨rfl, _⟩, hnn, rfl⟩ := hv
    have hlx := ho.1
    refine ⟨xs.set (i * 5 + 4) (tv q), ⟨by rw [List.length_set, List.length_set]; exact hlx, .inr ⟨g, cap, cur.setIfInBounds (i * 5 + 4) (tv q), by rw [hnn, List.length_set], hb, ?_, by rw [List.length_set]; exact hn, hcap, by simp [hsz], ?_⟩⟩, fun k y u hk => ?_⟩
    · simp [World.setCell, Array.getElem?_modify, hg]
    · rw [List.length_set, ← htake, Array.toList_setIfInBounds, List.take_set]
    · by_cases e : k = i
      · subst e
        rw [List.getElem?_set_self hli] at hk
        simp only [Option.some.injEq, Prod.mk.injEq] at hk
        obtain ⟨rfl, rfl⟩ := hk
        obtain ⟨A, m, c, ⟨a0, a1, a2, a3, a4⟩, b, d⟩ := hx k x p hi
        have ot : ∀ j u, j ≠ k * 5 + 4 → xs[j]? = some u → (xs.set (k * 5 + 4) (tv q))[j]? = some u := fun j u hj h => by rw [List.getElem?_set_ne (Ne.symm hj)]; exact h
        exact ⟨A, m, c, ⟨ot _ _ (by omega) a0, ot _ _ (by omega) a1, ot _ _ (by omega) a2, ot _ _ (by omega) a3, List.getElem?_set_self (List.getElem?_eq_some_iff.1 a4).1⟩, b.off d hgr, d⟩
      · rw [List.getElem?_set_ne (fun h => e h.symm)] at hk
        obtain ⟨A, m, c, ⟨a0, a1, a2, a3, a4⟩, b, d⟩ := hx k y u hk
        have ot : ∀ j u, j ≠ i * 5 + 4 → xs[j]? = some u → (xs.set (i * 5 + 4) (tv q))[j]? = some u := fun j u hj h => by rw [List.getElem?_set_ne (Ne.symm hj)]; exact h
        exact ⟨A, m, c, ⟨ot _ _ (by omega) a0, ot _ _ (by omega) a1, ot _ _ (by omega) a2, ot _ _ (by omega) a3, ot _ _ (by omega) a4⟩, b.off d hgr, d⟩
end Go.Proofs.YthmmgjieppknkaaGreatDoor
