/- Contracts and plain laws that the statements of this seat share (part Ktas). -/
import Derived.Test.YthmmgjieppknkaaGreatDoorKtaa
import Derived.Test.YthmmgjieppknkaaGreatDoorKtab
import Derived.Test.YthmmgjieppknkaaGreatDoorKtac
import Derived.Test.YthmmgjieppknkaaGreatDoorKtaf
import Derived.Test.YthmmgjieppknkaaGreatDoorKtal
import Derived.Test.YthmmgjieppknkaaGreatDoorKtam
import Derived.Maps.RangeWalk
namespace Go.Proofs.YthmmgjieppknkaaGreatDoor
open Go.RowKit Go.Maps Go.ChangeMaps MLab
section
variable {P : Program} {k : TypeId} {α : Type}
structure KeyKind (P : Program) (k : TypeId) (α : Type) where
  lay : α → Value
  ok : α → Prop
  keyed : Keyed P k
  isKey : ∀ a, ok a → ∃ l, keyOf P k (lay a) = some l
  inj : ∀ a b, ok a → ok b → lay a = lay b → a = b
def tv (q : Rat) : Value := .string ⟨(RT q).toArray⟩
def entL (es : Array MapEntry) : List (Value × Value) := es.toList.map fun e => (e.key, e.val)
def MapIs (M : KeyKind P k α) (w : World) (b : Nat) (L : List (α × Rat)) : Prop :=
  ∃ es clock, w.heap[b]? = some (.map es clock) ∧ MapKept.Stamped es clock ∧ ((∀ x ∈ L, M.ok x.1) ∧ (L.map (·.1)).Nodup) ∧ entL es = L.map fun x => (M.lay x.1, tv x.2)
variable {M : KeyKind P k α} {w w' : World} {b : Nat} {L : List (α × Rat)}
theorem MapIs.lt (h : MapIs M w b L) : b < w.heap.size := by
  obtain ⟨es, clock, hb, _⟩ := h
  exact (Array.getElem?_eq_some_iff.1 hb).1
theorem MapIs.kept {row : Option Nat} (h : MapIs M w b L) (hg : w.grownBy w' row) (hne : some b ≠ row) : MapIs M w' b L := by
  have hlt := h.lt
  obtain ⟨es, clock, hb, r⟩ := h
  exact ⟨es, clock, (hg.block b hlt hne).trans hb, r⟩
theorem MapIs.below (h : MapIs M w b L) (hb : Below w.heap.size w w') : MapIs M w' b L := by
  have hlt := h.lt
  obtain ⟨es, clock, hb2, r⟩ := h
  exact ⟨es, clock, (hb.block b hlt).trans hb2, r⟩
theorem MapIs.made (M : KeyKind P k α) (w : World) : MapIs M (w.alloc (.map #[] 0)) w.heap.size [] :=
  ⟨#[], 0, heap_alloc_new _ _, MapKept.stamped_empty 0, ⟨fun x h => by simp at h, by simp⟩, rfl⟩
theorem ent_at {es : Array MapEntry} (h : entL es = L.map fun x => (M.lay x.1, tv x.2)) {j : Nat} {e : MapEntry} (he : es.toList[j]? = some e) : ∃ x, L[j]? = some x ∧ M.lay x.1 = e.key ∧ tv x.2 = e.val := by
  have h1 : (entL es)[j]? = some (e.key, e.val) := by unfold entL; rw [List.getElem?_map, he]; rfl
  rw [h, List.getElem?_map] at h1
  obtain ⟨x, hx, hx2⟩ := Option.map_eq_some_iff.1 h1
  simp only [Prod.mk.injEq] at hx2
  exact ⟨x, hx, hx2.1, hx2.2⟩
theorem ent_keys {es : Array MapEntry} (h : entL es = L.map fun x => (M.lay x.1, tv x.2)) (hok : ∀ x ∈ L, M.ok x.1) : ∀ e ∈ es.toList, ∃ l, keyOf P k e.key = some l := by
  intro e he
  obtain ⟨j, hj⟩ := List.mem_iff_getElem?.1 he
  obtain ⟨x, hx, h1, _⟩ := ent_at h hj
  rw [← h1]
  exact M.isKey _ (hok x (List.mem_of_getElem? hx))
theorem ent_mem {es : Array MapEntry} (h : entL es = L.map fun x => (M.lay x.1, tv x.2)) {x : α × Rat} (hx : x ∈ L) : ∃ e ∈ es.toList, e.key = M.lay x.1 := by
  have h1 : (M.lay x.1, tv x.2) ∈ entL es := by rw [h]; exact List.mem_map.2 ⟨x, hx, rfl⟩
  obtain ⟨e, he, h2⟩ := List.mem_map.1 h1
  simp only [Prod.mk.injEq] at h2
  exact ⟨e, he, h2.1⟩
theorem MapIs.find (h : MapIs M w b L) {a : α} (ha : M.ok a) :
    ∃ es clock, w.heap[b]? = some (.map es clock) ∧ MapKept.Stamped es clock ∧ ((∀ x ∈ L, M.ok x.1) ∧ (L.map (·.1)).Nodup) ∧ entL es = (L.map fun x => (M.lay x.1, tv x.2)) ∧ (∀ em, (Instr.checkKey em 10000 k (M.lay a)).run P w = .ok () w) ∧
    (((Instr.findKey k (M.lay a) es.toList).run P w = .ok none w ∧ (∀ e ∈ es.toList, e.key ≠ M.lay a) ∧ ∀ x ∈ L, x.1 ≠ a) ∨
      ∃ (j : Nat) (v : Rat) (e : MapEntry), (Instr.findKey k (M.lay a) es.toList).run P w = .ok (some (j, tv v)) w ∧ L[j]? = some (a, v) ∧ es[j]? = some e ∧ e.key = M.lay a) := by
  obtain ⟨es, clock, hb, hst, hok, hent⟩ := h
  obtain ⟨l, hl⟩ := M.isKey a ha
  refine ⟨es, clock, hb, hst, hok, hent, fun em => M.keyed.check w em hl, ?_⟩
  rcases M.keyed.find w hl es.toList (ent_keys hent hok.1) with ⟨h1, h2⟩ | ⟨j, e, h1, h2, h3⟩
  · refine Or.inl ⟨h1, h2, fun x hx e => ?_⟩
    obtain ⟨e2, he2, hk⟩ := ent_mem hent hx
    rw [e] at hk
    exact h2 e2 he2 hk
  · obtain ⟨x, hx, hx1, hx2⟩ := ent_at hent h2
    have hxa : x.1 = a := M.inj _ _ (hok.1 x (List.mem_of_getElem? hx)) ha (hx1.trans h3)
    refine Or.inr ⟨j, x.2, e, by rw [hx2]; exact h1, by rw [hx, ← hxa], by simpa using h2, h3⟩
theorem MapIs.look {t e : TypeId} {z : Value} (h : MapIs M w b L) (ht : P.underlying t = some (.map k e)) (hz : (zeroValue e).run P w = .ok z w) {a : α} (ha : M.ok a) :
    ((Instr.lookup t (.map (some b)) (M.lay a) true).run P w = .ok (.tuple #[z, .bool false]) w ∧ ∀ x ∈ L, x.1 ≠ a) ∨ ∃ (j : Nat) (v : Rat), L[j]? = some (a, v) ∧ (Instr.lookup t (.map (some b)) (M.lay a) true).run P w = .ok (.tuple #[tv v, .bool true]) w := by
  obtain ⟨es, clock, hb, hst, hok, hent, hck, ⟨h1, h2, h3⟩ | ⟨j, v, e0, h1, h2, h3, h4⟩⟩ := h.find ha
  · exact Or.inl ⟨by simp [Instr.lookup, run_underlying ht, MapKept.run_getObj_map hb, hck, h1, hz, Result.andThen], h3⟩
  · exact Or.inr ⟨j, v, h2, by simp [Instr.lookup, run_underlying ht, MapKept.run_getObj_map hb, hck, h1, Result.andThen]⟩
theorem grown_setBlock (w : World) (b : Nat) (o : Obj) : w.grownBy (setBlock w b o) (some b) := by
  refine ⟨rfl, rfl, rfl, by simp [setBlock], fun i hi hne => ?_⟩
  have : b ≠ i := fun e => hne (by rw [e])
  simp [setBlock, this]
theorem drewGM (w : World) : w.grownBy w.drew none := ⟨rfl, rfl, rfl, Nat.le_refl _, fun _ _ _ => rfl⟩
theorem MapIs.put_new {t e : TypeId} (h : MapIs M w b L) (ht : P.underlying t = some (.map k e)) {a : α} (ha : M.ok a) (hn : ∀ x ∈ L, x.1 ≠ a) (v : Rat) :
    ∃ w', (Instr.mapUpdate t (.map (some b)) (M.lay a) (tv v)).run P w = .ok () w' ∧ w.grownBy w' (some b) ∧ w'.heap.size = w.heap.size ∧ MapIs M w' b (L ++ [(a, v)]) := by
  obtain ⟨es, clock, hb, hst, hok, hent, hck, ⟨h1, h2, h3⟩ | ⟨j, u, e0, h1, h2, h3, h4⟩⟩ := h.find ha
  · refine ⟨setBlock w b (.map (es.push ⟨M.lay a, tv v, clock⟩) (clock + 1)), by simp [Instr.mapUpdate, run_underlying ht, MapKept.run_getObj_map hb, hck, h1, MapKept.run_setObj_map _ hb, Result.andThen, setBlock], grown_setBlock _ _ _, by simp [setBlock], ?_⟩
    refine ⟨_, _, (MapKept.heap_set hb).1, MapKept.stamped_push hst h2, ⟨?_, ?_⟩, ?_⟩
    · intro x hx
      rcases List.mem_append.1 hx with hx | hx
      · exact hok.1 x hx
      · obtain rfl := List.mem_singleton.1 hx; exact ha
    · exact AddL.nodup (x := v) (Or.inl ⟨hn, by rw [show (0 : Rat) + v = v by grind]⟩) hok.2
    · unfold entL at hent ⊢
      rw [Array.toList_push, List.map_append, List.map_append, hent]; rfl
  · exact absurd rfl (hn _ (List.mem_of_getElem? h2))
theorem MapIs.put_old {t e : TypeId} (h : MapIs M w b L) (ht : P.underlying t = some (.map k e)) {a : α} (ha : M.ok a) {j : Nat} {u : Rat} (hj : L[j]? = some (a, u)) (v : Rat) :
    ∃ w', (Instr.mapUpdate t (.map (some b)) (M.lay a) (tv v)).run P w = .ok () w' ∧ w.grownBy w' (some b) ∧ w'.heap.size = w.heap.size ∧ MapIs M w' b (L.set j (a, v)) := by
  obtain ⟨es, clock, hb, hst, hok, hent, hck, ⟨h1, h2, h3⟩ | ⟨j', u', e0, h1, h2, h3, h4⟩⟩ := h.find ha
  · exact absurd rfl (h3 _ (List.mem_of_getElem? hj))
  · obtain ⟨l, hl⟩ := M.isKey a ha
    have hjj : j' = j := by
      have a1 : (L.map (·.1))[j']? = some a := by rw [List.getElem?_map, h2]; rfl
      have a2 : (L.map (·.1))[j]? = some a := by rw [List.getElem?_map, hj]; rfl
      exact (List.getElem?_inj (List.getElem?_eq_some_iff.1 a1).1 hok.2).1 (a1.trans a2.symm)
    subst hjj
    obtain rfl : u' = u := by rw [h2] at hj; cases hj; rfl
    refine ⟨setBlock w b (.map (es.modify j' fun e => { e with key := M.lay a, val := tv v }) clock), by simp [Instr.mapUpdate, run_underlying ht, MapKept.run_getObj_map hb, hck, h1, h3, h4, M.keyed.stays w hl, MapKept.run_setObj_map _ hb, Result.andThen, setBlock], grown_setBlock _ _ _, by simp [setBlock], ?_⟩
    have hkey : ∀ e', es[j']? = some e' → ({ e' with key := M.lay a, val := tv v } : MapEntry).key = e'.key := fun e' he' => by rw [h3] at he'; cases he'; exact h4.symm
    refine ⟨_, _, (MapKept.heap_set hb).1, MapKept.stamped_modify hst _ _ (fun _ _ => rfl) (fun e' _ he' => hkey e' he'), ⟨?_, ?_⟩, ?_⟩
    · intro x hx
      rcases List.mem_or_eq_of_mem_set hx with hx | rfl
      · exact hok.1 x hx
      · exact ha
    · exact AddL.nodup (x := v - u') (Or.inr ⟨j', u', h2, by rw [show u' + (v - u') = v by grind]⟩) hok.2
    · have hj : j' < L.length := (List.getElem?_eq_some_iff.1 h2).1
      have hlen : es.size = L.length := by have := congrArg List.length hent; simpa [entL] using this
      apply List.ext_getElem?
      intro i
      have hi : (entL es)[i]? = (L.map fun x => (M.lay x.1, tv x.2))[i]? := by rw [hent]
      unfold entL at hi ⊢
      rw [List.getElem?_map, List.getElem?_map] at hi
      rw [List.getElem?_map, List.getElem?_map, Array.getElem?_toList, Array.getElem?_modify, List.getElem?_set]
      rw [Array.getElem?_toList] at hi
      by_cases hij : j' = i
      · subst hij
        rw [if_pos rfl, if_pos rfl, if_pos hj, h3]; rfl
      · rw [if_neg hij, if_neg hij]; exact hi
theorem map_erase {α β : Type} (f : α → β) : ∀ (L : List α) (j : Nat), (L.eraseIdx j).map f = (L.map f).eraseIdx j
  | [], _ => rfl
  | _ :: _, 0 => rfl
  | x :: L, j + 1 => by rw [List.eraseIdx_cons_succ, List.map_cons, List.map_cons, List.eraseIdx_cons_succ, map_erase f L j]
def Rngs (M : KeyKind P k α) (w : World) (b r : Nat) (L T : List (α × Rat)) (n : Nat) : Prop :=
  ∃ (es : Array MapEntry) (clock since c0 : Nat) (seen : Array Nat) (R : List (α × Rat)), w.heap[b]? = some (.map es clock) ∧ MapKept.Stamped es clock ∧ ((∀ x ∈ L, M.ok x.1) ∧ (L.map (·.1)).Nodup) ∧ entL es = (L.map fun x => (M.lay x.1, tv x.2)) ∧
    w.heap[r]? = some (.mapIter (some b) since seen c0) ∧ (∀ x ∈ es.toList, x.born < since) ∧ (since ≤ c0 ∧ since ≤ clock) ∧ (leftOf es seen).size = n ∧
    entL (leftOf es seen) = (R.map fun x => (M.lay x.1, tv x.2)) ∧ (∀ x ∈ R, x ∈ L) ∧ ∀ g, sumW T g + sumW R g = sumW L g
theorem Rngs.map {r : Nat} {T : List (α × Rat)} {n : Nat} (h : Rngs M w b r L T n) : MapIs M w b L := by
  obtain ⟨es, clock, _, _, _, _, hb, hst, hok, hent, _⟩ := h
  exact ⟨es, clock, hb, hst, hok, hent⟩
theorem Rngs.lt {r : Nat} {T : List (α × Rat)} {n : Nat} (h : Rngs M w b r L T n) : r < w.heap.size := by
  obtain ⟨_, _, _, _, _, _, _, _, _, _, hr, _⟩ := h
  exact (Array.getElem?_eq_some_iff.1 hr).1
theorem Rngs.kept {r : Nat} {T : List (α × Rat)} {n : Nat} {row : Option Nat} (h : Rngs M w b r L T n) (hg : w.grownBy w' row) (hb : some b ≠ row) (hr : some r ≠ row) : Rngs M w' b r L T n := by
  have h1 := h.map.lt
  have h2 := h.lt
  obtain ⟨es, clock, since, c0, seen, R, a1, a2, a3, a4, a5, a6⟩ := h
  exact ⟨es, clock, since, c0, seen, R, (hg.block b h1 hb).trans a1, a2, a3, a4, (hg.block r h2 hr).trans a5, a6⟩
theorem Rngs.below {r : Nat} {T : List (α × Rat)} {n : Nat} (h : Rngs M w b r L T n) (hb : Below w.heap.size w w') : Rngs M w' b r L T n := by
  have h1 := h.map.lt
  have h2 := h.lt
  obtain ⟨es, clock, since, c0, seen, R, a1, a2, a3, a4, a5, a6⟩ := h
  exact ⟨es, clock, since, c0, seen, R, (hb.block b h1).trans a1, a2, a3, a4, (hb.block r h2).trans a5, a6⟩
theorem MapIs.range {t e : TypeId} (h : MapIs M w b L) (ht : P.underlying t = some (.map k e)) :
    ∃ w', (Instr.range t (.map (some b))).run P w = .ok (.pointer (some ⟨w.heap.size, 0, none⟩)) w' ∧ Rngs M w' b w.heap.size L [] L.length ∧ Below w.heap.size w w' ∧ w'.heap.size = w.heap.size + 1 := by
  have hlt := h.lt
  obtain ⟨es, clock, hb, hst, hok, hent⟩ := h
  have hlen : es.size = L.length := by have := congrArg List.length hent; simpa [entL] using this
  have hleft : leftOf es #[] = es := by unfold leftOf; rw [Array.filter_eq_self]; intro x _; simp
  refine ⟨_, run_range_map w t k e b es clock ht hb, ⟨es, clock, clock, clock, #[], L, ?_, hst, hok, hent, heap_alloc_new _ _, hst.1, ⟨Nat.le_refl _, Nat.le_refl _⟩, by rw [hleft, hlen], by rw [hleft]; exact hent, fun x hx => hx, fun g => by rw [sumW]; grind⟩, (Below.refl _ _).alloc (Nat.le_refl _) _, by simp⟩
  exact (Below.heap_alloc w _ b hlt).trans hb
theorem sumW_split (g : α → Rat) : ∀ {R : List (α × Rat)} {j : Nat} {x : α × Rat}, R[j]? = some x → sumW R g = x.2 * g x.1 + sumW (R.eraseIdx j) g
  | [], _, _, h => by simp at h
  | y :: R, 0, x, h => by
    obtain rfl : y = x := by simpa using h
    rw [List.eraseIdx_cons_zero, sumW]
  | y :: R, j + 1, x, h => by
    rw [List.eraseIdx_cons_succ, sumW, sumW, sumW_split g (by simpa using h)]; grind
theorem filter_erase {es : List MapEntry} {e : MapEntry} {j : Nat} (hn : (es.map (·.born)).Nodup) (hj : es[j]? = some e) : es.filter (fun x => !(x.born == e.born)) = es.eraseIdx j := by
  induction es generalizing j with
  | nil => simp at hj
  | cons y es ih =>
    rw [List.map_cons, List.nodup_cons] at hn
    cases j with
    | zero =>
      obtain rfl : y = e := by simpa using hj
      rw [List.eraseIdx_cons_zero, List.filter_cons, if_neg (by simp)]
      refine List.filter_eq_self.2 fun x hx => ?_
      have hne : x.born ≠ y.born := fun e1 => hn.1 (e1 ▸ List.mem_map.2 ⟨x, hx, rfl⟩)
      simpa using hne
    | succ j =>
      have hj2 : es[j]? = some e := by simpa using hj
      have hne : y.born ≠ e.born := fun e1 => hn.1 (e1 ▸ List.mem_map.2 ⟨e, List.mem_of_getElem? hj2, rfl⟩)
      rw [List.eraseIdx_cons_succ, List.filter_cons, if_pos (by simpa using hne), ih hn.2 hj2]
theorem Rngs.le {r : Nat} {T : List (α × Rat)} {n : Nat} (h : Rngs M w b r L T n) (hL : ∀ x ∈ L, 0 ≤ x.2) {g : α → Rat} (hg : ∀ p, 0 ≤ g p) : sumW T g ≤ sumW L g := by
  obtain ⟨es, clock, since, c0, seen, R, a1, a2, a3, a4, a5, a6, a7, a8, a9, a10, a11⟩ := h
  exact sumW_mono a11 (fun x hx => hL x (a10 x hx)) hg
theorem Rngs.next {r : Nat} {T : List (α × Rat)} {n : Nat} (h : Rngs M w b r L T n) (ty : TypeId) :
    ((Instr.next (.pointer (some ⟨r, 0, none⟩)) false ty).run P w = .ok (.tuple #[.bool false]) w ∧ ∀ g, sumW T g = sumW L g) ∨
    ∃ (x : α × Rat) (w' : World) (n' : Nat), x ∈ L ∧ M.ok x.1 ∧ (Instr.next (.pointer (some ⟨r, 0, none⟩)) false ty).run P w = .ok (.tuple #[.bool true, M.lay x.1, tv x.2]) w' ∧ Rngs M w' b r L (T ++ [x]) n' ∧ n' < n ∧ w.grownBy w' (some r) ∧ w'.heap.size = w.heap.size ∧
      (Instr.entry (.pointer (some ⟨r, 0, none⟩))).run P w' = .ok (.tuple #[M.lay x.1, tv x.2]) w' := by
  have hne : r ≠ b := by
    obtain ⟨es, clock, since, c0, seen, R, a1, a2, a3, a4, a5, a6⟩ := h
    rintro rfl
    rw [a1] at a5; cases a5
  obtain ⟨es, clock, since, c0, seen, R, a1, a2, a3, a4, a5, a6, a7, a8, a9, a10, a11⟩ := h
  rcases run_next_at (P := P) w ty r b since c0 seen es clock a5 a1 a6 a7.1 with ⟨h0, hrun⟩ | ⟨e, he, w1, hw1, hrun⟩
  · refine Or.inl ⟨hrun, fun g => ?_⟩
    have hR : R = [] := by
      have hl : leftOf es seen = #[] := Array.eq_empty_of_size_eq_zero h0
      rw [hl] at a9
      exact List.eq_nil_of_length_eq_zero (by have := congrArg List.length a9; simpa [entL] using this.symm)
    have := a11 g
    rw [hR, sumW] at this
    grind
  · obtain ⟨j, hj⟩ := List.mem_iff_getElem?.1 he
    obtain ⟨x, hx, hx1, hx2⟩ := ent_at a9 hj
    have hxL := a10 x (List.mem_of_getElem? hx)
    have hmem := mem_left he
    have hw1h : w1.heap = w.heap := by rcases hw1 with rfl | rfl <;> rfl
    have hrlt : r < w1.heap.size := by rw [hw1h]; exact (Array.getElem?_eq_some_iff.1 a5).1
    have hr' : (setBlock w1 r (.mapIter (some b) since (seen.push e.born) clock)).heap[r]? = some (.mapIter (some b) since (seen.push e.born) clock) := by simp [setBlock, hrlt]
    have hb' : (setBlock w1 r (.mapIter (some b) since (seen.push e.born) clock)).heap[b]? = some (.map es clock) := by
      have : (setBlock w1 r (.mapIter (some b) since (seen.push e.born) clock)).heap[b]? = w1.heap[b]? := by simp [setBlock, hne]
      rw [this, hw1h]; exact a1
    have hent := run_entry_at (P := P) _ r b since seen es clock e hr' hb' hmem.1 a2.2.1
    have hcl : ∀ y ∈ es.toList, y.born < clock := a2.1
    refine Or.inr ⟨x, _, (leftOf es (seen.push e.born)).size, hxL, a3.1 x hxL, by rw [hx1, hx2]; exact hrun, ⟨es, clock, since, clock, seen.push e.born, R.eraseIdx j, hb', a2, a3, a4, hr', a6, ⟨a7.2, a7.2⟩, rfl, ?_, ?_, ?_⟩, ?_, ?_, ?_, by rw [hx1, hx2]; exact hent⟩
    · have hleft : (leftOf es (seen.push e.born)).toList = (leftOf es seen).toList.eraseIdx j := by
        have hnd : ((leftOf es seen).toList.map (·.born)).Nodup := by
          have hs : (leftOf es seen).toList.Sublist es.toList := by unfold leftOf; rw [Array.toList_filter]; exact List.filter_sublist
          exact (hs.map _).nodup a2.2.1
        rw [← filter_erase hnd hj]
        unfold leftOf
        rw [Array.toList_filter, Array.toList_filter, List.filter_filter]
        refine List.filter_congr fun y _ => ?_
        rw [contains_push]
        cases seen.contains y.born <;> cases (y.born == e.born) <;> rfl
      unfold entL at a9 ⊢
      rw [hleft]
      rw [map_erase, a9, map_erase]
    · intro y hy; exact a10 y ((List.eraseIdx_sublist _ _).subset hy)
    · intro g
      rw [sumW_append]
      have h1 := a11 g
      rw [sumW_split g hx] at h1
      have h2 : sumW [x] g = x.2 * g x.1 := by rw [sumW, sumW]; grind
      rw [h2]; grind
    · rw [← a8]; exact left_shrinks es seen e he
    · rcases hw1 with rfl | rfl
      · exact grown_setBlock _ _ _
      · exact (World.grownBy.but (drewGM w) (some r)).trans (grown_setBlock _ _ _)
    · simp [setBlock, hw1h]
theorem wpList_look {ops : Array Oper} {rest : List Oper} {o : Oper} {a : Act} {Q : Exit → Act → World → Prop} (hg : o.guard = none) (m x : Operand) (t : TypeId) (hop : o.op = Op.lookup t m x true) {e : TypeId} {z : Value}
    (ht : P.underlying t = some (.map k e)) (hz : (zeroValue e).run P w = .ok z w) (hm : a.eval m = .map (some b)) (h : MapIs M w b L) (y : α) (ha : M.ok y) (hx : a.eval x = M.lay y)
    (hNone : (∀ x ∈ L, x.1 ≠ y) → wpList P ops Q rest (a.put o.dst (.tuple #[z, .bool false])) w)
    (hSome : ∀ (j : Nat) (v : Rat), L[j]? = some (y, v) → wpList P ops Q rest (a.put o.dst (.tuple #[tv v, .bool true])) w) : wpList P ops Q (o :: rest) a w := by
  refine wpList_plain hg fun K' hK' => ?_
  unfold Oper.wp
  rcases h.look ht hz ha with ⟨hrun, hn⟩ | ⟨j, v, hj, hrun⟩
  · simp [execOp, hop, hm, hx, hrun, Result.andThen]
    exact hK' _ _ (hNone hn)
  · simp [execOp, hop, hm, hx, hrun, Result.andThen]
    exact hK' _ _ (hSome j v hj)
theorem wpList_put {ops : Array Oper} {rest : List Oper} {o : Oper} {a : Act} {Q : Exit → Act → World → Prop} (hg : o.guard = none) (m x y : Operand) (t : TypeId) (hop : o.op = Op.mapUpdate t m x y) {e : TypeId}
    (ht : P.underlying t = some (.map k e)) (hm : a.eval m = .map (some b)) (h : MapIs M w b L) (c : α) (ha : M.ok c) (hx : a.eval x = M.lay c) (v : Rat) (hy : a.eval y = tv v) (L' : List (α × Rat))
    (hL : ((∀ x ∈ L, x.1 ≠ c) ∧ L' = L ++ [(c, v)]) ∨ ∃ (j : Nat) (u : Rat), L[j]? = some (c, u) ∧ L' = L.set j (c, v))
    (hK : ∀ w', MapIs M w' b L' → w.grownBy w' (some b) → w'.heap.size = w.heap.size → wpList P ops Q rest (a.put o.dst (.tuple #[])) w') : wpList P ops Q (o :: rest) a w := by
  refine wpList_plain hg fun K' hK' => ?_
  unfold Oper.wp
  rcases hL with ⟨hn, rfl⟩ | ⟨j, u, hj, rfl⟩
  · obtain ⟨w', hrun, g1, g2, g3⟩ := h.put_new ht ha hn v
    simp [execOp, hop, hm, hx, hy, hrun, Result.andThen]
    exact hK' _ _ (hK w' g3 g1 g2)
  · obtain ⟨w', hrun, g1, g2, g3⟩ := h.put_old ht ha hj v
    simp [execOp, hop, hm, hx, hy, hrun, Result.andThen]
    exact hK' _ _ (hK w' g3 g1 g2)
theorem wpList_rng {ops : Array Oper} {rest : List Oper} {o : Oper} {a : Act} {Q : Exit → Act → World → Prop} (hg : o.guard = none) (m : Operand) (t : TypeId) (hop : o.op = Op.range t m) {e : TypeId}
    (ht : P.underlying t = some (.map k e)) (hm : a.eval m = .map (some b)) (h : MapIs M w b L)
    (hK : ∀ w', Rngs M w' b w.heap.size L [] L.length → Below w.heap.size w w' → w'.heap.size = w.heap.size + 1 → wpList P ops Q rest (a.put o.dst (.pointer (some ⟨w.heap.size, 0, none⟩))) w') : wpList P ops Q (o :: rest) a w := by
  refine wpList_plain hg fun K' hK' => ?_
  obtain ⟨w', hrun, r1, r2, r3⟩ := h.range ht
  unfold Oper.wp
  simp [execOp, hop, hm, hrun, Result.andThen]
  exact hK' _ _ (hK w' r1 r2 r3)
theorem wpList_nxt {ops : Array Oper} {rest : List Oper} {o : Oper} {a : Act} {Q : Exit → Act → World → Prop} {r : Nat} {T : List (α × Rat)} {n : Nat} (hg : o.guard = none) (it : Operand) (hop : o.op = Op.next it false)
    (hit : a.eval it = .pointer (some ⟨r, 0, none⟩)) (h : Rngs M w b r L T n)
    (hDone : (∀ g, sumW T g = sumW L g) → wpList P ops Q rest (a.put o.dst (.tuple #[.bool false])) w)
    (hMore : ∀ (y : α) (v : Rat) (w' : World) (n' : Nat), (y, v) ∈ L → M.ok y → Rngs M w' b r L (T ++ [(y, v)]) n' → n' < n → w.grownBy w' (some r) → w'.heap.size = w.heap.size →
      (Instr.entry (.pointer (some ⟨r, 0, none⟩))).run P w' = .ok (.tuple #[M.lay y, tv v]) w' → wpList P ops Q rest (a.put o.dst (.tuple #[.bool true, M.lay y, tv v])) w') : wpList P ops Q (o :: rest) a w := by
  refine wpList_plain hg fun K' hK' => ?_
  unfold Oper.wp
  rcases h.next o.type with ⟨hrun, hd⟩ | ⟨⟨y, v⟩, w', n', h1, h2, hrun, h3, h4, h5, h6, h7⟩
  · simp [execOp, hop, hit, hrun, Result.andThen]
    exact hK' _ _ (hDone hd)
  · simp [execOp, hop, hit, hrun, Result.andThen]
    exact hK' _ _ (hMore y v w' n' h1 h2 h3 h4 h5 h6 h7)
end
end Go.Proofs.YthmmgjieppknkaaGreatDoor

namespace Go.Proofs.YthmmgjieppknkaaGreatDoor
open MLab
structure GrC (D n : Nat) (c : Nat → Rat) : Prop where
  pos : 0 < D
  gr : ∀ m, m ≤ 2 → Gr D 1 (c m)
  le : ∀ m, c m ≤ 1
  nn : ∀ m, 0 ≤ c m
  small : D ^ n ≤ 10 ^ 499
theorem GrC.pow {D n : Nat} {c : Nat → Rat} (h : GrC D n c) {k : Nat} (hk : k ≤ n) : D ^ k ≤ 10 ^ 499 := Nat.le_trans (Nat.pow_le_pow_right h.pos hk) h.small
theorem GrC.good {D n : Nat} {c : Nat → Rat} (h : GrC D n c) {p : Pt} (hp : OkP p) : Gr D 1 (goodQ c p) := by
  unfold goodQ
  split
  · exact Gr.one D 1
  · rename_i hne
    refine h.gr _ ?_
    have := hp.1
    have h3 := hp.2.2.2.2.2.2
    by_cases e : p.mode = 3
    · exact absurd (h3 e) hne
    · omega
theorem GrC.good_le {D n : Nat} {c : Nat → Rat} (h : GrC D n c) (p : Pt) : goodQ c p ≤ 1 := (goodQ_nn (fun m => ⟨h.nn m, h.le m⟩) p).2
theorem GrC.good_nn {D n : Nat} {c : Nat → Rat} (h : GrC D n c) (p : Pt) : 0 ≤ goodQ c p := (goodQ_nn (fun m => ⟨h.nn m, h.le m⟩) p).1
theorem szm {D k m M : Nat} {q : Rat} (hM : M = m + 1) (hD : 0 < D) (hq : Gr D k q) (h1 : q ≤ 1) (hm : D ^ k ≤ 10 ^ m) : Sz M M q := by subst hM; exact hq.sz hD h1 hm
theorem _root_.MLab.Gr.sz500 {D n k : Nat} {c : Nat → Rat} (h : GrC D n c) (hk : k ≤ n) {q : Rat} (hq : Gr D k q) (h1 : q ≤ 1) : Sz 500 500 q := szm (m := 499) rfl h.pos hq h1 (h.pow hk)
def NowI (D : Nat) (c : Nat → Rat) (k : Nat) (L : List (Pt × Rat)) : Prop := LawN c k L ∧ ∀ y ∈ L, Gr D k y.2
theorem NowI.nn {D k : Nat} {c : Nat → Rat} {L : List (Pt × Rat)} (h : NowI D c k L) : ∀ y ∈ L, 0 ≤ y.2 := fun y hy => (h.2 y hy).nn
theorem NowI.le1 {D k : Nat} {c : Nat → Rat} {L : List (Pt × Rat)} (h : NowI D c k L) : ∀ y ∈ L, y.2 ≤ 1 := fun y hy => by
  have := sumW_ge hy h.nn
  rwa [h.1.one] at this
theorem NowI.start (D : Nat) (c : Nat → Rat) : NowI D c 0 [(begunP 0, 1)] := ⟨LawN.start c, fun y hy => by
  obtain rfl := List.mem_singleton.1 hy; exact Gr.one D 0⟩
def MidI (D : Nat) (c : Nat → Rat) (k : Nat) (T M : List (Pt × Rat)) : Prop := (∀ g, sumW M g = sumW T (oneE c g)) ∧ ∀ y ∈ M, Gr D (k + 1) y.2
theorem MidI.start (D : Nat) (c : Nat → Rat) (k : Nat) : MidI D c k [] [] := ⟨fun g => by rw [sumW, sumW], fun y hy => by simp at hy⟩
theorem MidI.total {D k : Nat} {c : Nat → Rat} {T M : List (Pt × Rat)} (h : MidI D c k T M) : sumW M (fun _ => 1) = sumW T (fun _ => 1) := by
  rw [h.1, show oneE c (fun _ => 1) = fun _ => 1 from funext fun p => oneE_const c 1 p]
theorem snoc_one {T : List (Pt × Rat)} {x : Pt} {p : Rat} : sumW (T ++ [(x, p)]) (fun _ => 1) = sumW T (fun _ => 1) + p := by rw [sumW_append, sumW, sumW]; grind
theorem gr_next {D k : Nat} {p q : Rat} (hp : Gr D k p) (hq : Gr D 1 q) : Gr D (k + 1) (p * q) := hp.mul hq
theorem mul_le_one' {p q : Rat} (hp0 : 0 ≤ p) (_ : p ≤ 1) (_ : 0 ≤ q) (hq : q ≤ 1) : p * q ≤ p := by
  have := Rat.mul_le_mul_of_nonneg_left hq hp0
  grind
theorem mid_first {D n k : Nat} {c : Nat → Rat} {L T M : List (Pt × Rat)} {x : Pt} {p : Rat} (hc : GrC D n c) (hk : k + 1 ≤ n) (hL : NowI D c k L) (hM : MidI D c k T M) (hx : (x, p) ∈ L) (hT : sumW (T ++ [(x, p)]) (fun _ => 1) ≤ 1) (hok : OkP x) :
    Sz 500 500 p ∧ Sz 500 500 (goodQ c x) ∧ Sz 500 500 (1 - goodQ c x) ∧ Sz 500 500 (p * goodQ c x) ∧ Sz 500 500 (p * (1 - goodQ c x)) ∧ ∀ y ∈ M, Sz 500 500 y.2 := by
  have hp := hL.2 _ hx
  have hp1 := hL.le1 _ hx
  have hg := hc.good hok
  have hg1 := hc.good_le x
  have hg0 := hc.good_nn x
  have hb := hg.co hg1
  have hp0 : 0 ≤ p := hp.nn
  refine ⟨hp.sz500 hc (by omega) hp1, hg.sz500 hc (by omega) hg1, hb.sz500 hc (by omega) (by grind), (gr_next hp hg).sz500 hc hk ?_, (gr_next hp hb).sz500 hc hk ?_, fun y hy => (hM.2 y hy).sz500 hc hk ?_⟩
  · have := mul_le_one' hp0 hp1 hg0 hg1
    have h1 : p ≤ 1 := hp1
    grind
  · have := mul_le_one' hp0 hp1 (show 0 ≤ 1 - goodQ c x by grind) (by grind)
    have h1 : p ≤ 1 := hp1
    grind
  · have h1 := sumW_ge hy (fun z hz => (hM.2 z hz).nn)
    rw [hM.total] at h1
    rw [snoc_one] at hT
    grind
theorem mid_second {D n k : Nat} {c : Nat → Rat} {L T M M1 : List (Pt × Rat)} {x : Pt} {p : Rat} (hc : GrC D n c) (hk : k + 1 ≤ n) (hL : NowI D c k L) (hM : MidI D c k T M) (hx : (x, p) ∈ L) (hT : sumW (T ++ [(x, p)]) (fun _ => 1) ≤ 1) (hok : OkP x)
    (h1 : AddL M (goesP x true) (p * goodQ c x) M1) : ∀ y ∈ M1, Sz 500 500 y.2 := by
  have hp := hL.2 _ hx
  have hp1 : p ≤ 1 := hL.le1 _ hx
  have hp0 : 0 ≤ p := hp.nn
  have hgr := h1.gr hM.2 (gr_next hp (hc.good hok))
  intro y hy
  refine (hgr y hy).sz500 hc hk ?_
  have h2 := sumW_ge hy (fun z hz => (hgr z hz).nn)
  rw [h1.sum, hM.total] at h2
  rw [snoc_one] at hT
  have := mul_le_one' hp0 hp1 (hc.good_nn x) (hc.good_le x)
  grind
theorem mid_step {D n k : Nat} {c : Nat → Rat} {L T M M1 M2 : List (Pt × Rat)} {x : Pt} {p : Rat} (hc : GrC D n c) (hL : NowI D c k L) (hM : MidI D c k T M) (hx : (x, p) ∈ L) (hok : OkP x)
    (h1 : AddL M (goesP x true) (p * goodQ c x) M1) (h2 : AddL M1 (goesP x false) (p * (1 - goodQ c x)) M2) : MidI D c k (T ++ [(x, p)]) M2 := by
  have hp := hL.2 _ hx
  have hg := hc.good hok
  refine ⟨fun g => ?_, h2.gr (h1.gr hM.2 (gr_next hp hg)) (gr_next hp (hg.co (hc.good_le x)))⟩
  rw [h2.sum, h1.sum, hM.1, sumW_append, sumW, sumW]
  show sumW T (oneE c g) + p * goodQ c x * g (goesP x true) + p * (1 - goodQ c x) * g (goesP x false) = sumW T (oneE c g) + (p * oneE c g x + 0)
  unfold oneE
  grind
theorem mid_done {D k : Nat} {c : Nat → Rat} {L T M : List (Pt × Rat)} (hL : NowI D c k L) (hM : MidI D c k T M) (hT : ∀ g, sumW T g = sumW L g) : NowI D c (k + 1) M := ⟨hL.1.step fun g => by rw [hM.1, hT], hM.2⟩
def AllI (D : Nat) (k : Nat) (T : List (Pt × Rat)) (A : List (Nat × Rat)) : Prop := (∀ g : Nat → Rat, sumW A g = sumW T (fun p => g p.mode)) ∧ ∀ y ∈ A, Gr D k y.2
theorem AllI.start (D k : Nat) : AllI D k [] [] := ⟨fun g => by rw [sumW, sumW], fun y hy => by simp at hy⟩
theorem all_sz {D n k : Nat} {c : Nat → Rat} {L T : List (Pt × Rat)} {A : List (Nat × Rat)} {x : Pt} {p : Rat} (hc : GrC D n c) (hk : k ≤ n) (hL : NowI D c k L) (hA : AllI D k T A) (hx : (x, p) ∈ L) (hT : sumW (T ++ [(x, p)]) (fun _ => 1) ≤ 1) :
    Sz 500 500 p ∧ Sz 500 500 (p * 1) ∧ ∀ y ∈ A, Sz 500 500 y.2 := by
  have hp := hL.2 _ hx
  have hp1 : p ≤ 1 := hL.le1 _ hx
  have hs := hp.sz500 hc hk hp1
  refine ⟨hs, by rw [Rat.mul_one]; exact hs, fun y hy => (hA.2 y hy).sz500 hc hk ?_⟩
  have h1 := sumW_ge hy (fun z hz => (hA.2 z hz).nn)
  rw [hA.1] at h1
  rw [snoc_one] at hT
  have hp0 : 0 ≤ p := hp.nn
  grind
theorem all_step {D k : Nat} {c : Nat → Rat} {L T : List (Pt × Rat)} {A A1 : List (Nat × Rat)} {x : Pt} {p : Rat} (hL : NowI D c k L) (hA : AllI D k T A) (hx : (x, p) ∈ L) (h : AddL A x.mode (p * 1) A1) : AllI D k (T ++ [(x, p)]) A1 := by
  have hp := hL.2 _ hx
  refine ⟨fun g => ?_, h.gr hA.2 (by rw [Rat.mul_one]; exact hp)⟩
  rw [h.sum, hA.1, sumW_append, sumW, sumW]
  show sumW T (fun p => g p.mode) + p * 1 * g x.mode = sumW T (fun p => g p.mode) + (p * g x.mode + 0)
  grind
def ind1 (m : Nat) : Nat → Rat := fun a => if a = m then 1 else 0
theorem ind1_nn (m a : Nat) : 0 ≤ ind1 m a := by unfold ind1; split <;> decide
theorem all_done {D k : Nat} {c : Nat → Rat} {L T : List (Pt × Rat)} {A : List (Nat × Rat)} (hL : NowI D c k L) (hA : AllI D k T A) (hT : ∀ g, sumW T g = sumW L g) (m : Nat) : sumW A (ind1 m) = modeQ c k m := by
  rw [hA.1, hT, hL.1]
  unfold modeQ
  exact congrArg (fun f => expE c k f (begunP 0)) (funext fun p => rfl)
theorem sumW_key {L : List (Nat × Rat)} {a : Nat} {p : Rat} (hn : (L.map (·.1)).Nodup) (h : (a, p) ∈ L) : sumW L (ind1 a) = p := by
  have hz : ∀ M : List (Nat × Rat), (∀ y ∈ M, y.1 ≠ a) → sumW M (ind1 a) = 0 := by
    intro M
    induction M with
    | nil => intro _; rw [sumW]
    | cons y M ih =>
      intro hM
      rw [sumW, ih fun z hz => hM z (List.mem_cons_of_mem _ hz)]
      have : ind1 a y.1 = 0 := by unfold ind1; rw [if_neg (hM y List.mem_cons_self)]
      rw [this]; grind
  induction L with
  | nil => simp at h
  | cons y L ih =>
    rw [List.map_cons, List.nodup_cons] at hn
    rw [sumW]
    rcases List.mem_cons.1 h with rfl | h
    · have hno : ∀ z ∈ L, z.1 ≠ a := fun z hz e => hn.1 (by
        have : z.1 ∈ L.map (·.1) := List.mem_map.2 ⟨z, hz, rfl⟩
        rwa [e] at this)
      rw [hz L hno]
      have : ind1 a (a, p).1 = 1 := by unfold ind1; rw [if_pos rfl]
      rw [this]
      show p * 1 + 0 = p
      grind
    · have hne : y.1 ≠ a := fun e => hn.1 (by rw [e]; exact List.mem_map.2 ⟨(a, p), h, rfl⟩)
      rw [ih hn.2 h]
      have : ind1 a y.1 = 0 := by unfold ind1; rw [if_neg hne]
      rw [this]; grind
def OutI (T : List (Nat × Rat)) (o : Nat → Rat) : Prop := (∀ m, o m = sumW T (ind1 m)) ∧ ∀ y ∈ T, 0 ≤ y.2
theorem OutI.start : OutI [] (fun _ => 0) := ⟨fun m => by rw [sumW], fun y hy => by simp at hy⟩
theorem out_step {L T : List (Nat × Rat)} {o : Nat → Rat} {a : Nat} {p : Rat} (hO : OutI T o) (hn : (L.map (·.1)).Nodup) (hL : ∀ y ∈ L, 0 ≤ y.2) (h : (a, p) ∈ L) (hT : sumW (T ++ [(a, p)]) (ind1 a) ≤ sumW L (ind1 a)) :
    OutI (T ++ [(a, p)]) (fun m => if m = a then p else o m) := by
  refine ⟨fun m => ?_, fun y hy => ?_⟩
  · have e : ∀ m, sumW (T ++ [(a, p)]) (ind1 m) = sumW T (ind1 m) + p * ind1 m a := fun m => by rw [sumW_append, sumW, sumW]; grind
    rw [e]
    by_cases hm : m = a
    · subst hm
      show (if m = m then p else o m) = _
      rw [if_pos rfl]
      rw [e, sumW_key hn h] at hT
      have h0 := sumW_nonneg (g := ind1 m) hO.2 (ind1_nn m)
      have h1 : ind1 m m = 1 := by unfold ind1; rw [if_pos rfl]
      rw [h1] at hT ⊢
      grind
    · show (if m = a then p else o m) = _
      rw [if_neg hm, hO.1]
      have : ind1 m a = 0 := by unfold ind1; rw [if_neg fun e => hm e.symm]
      rw [this]; grind
  · rcases List.mem_append.1 hy with hy | hy
    · exact hO.2 y hy
    · obtain rfl := List.mem_singleton.1 hy; exact hL _ h
theorem out_done {D k : Nat} {c : Nat → Rat} {L T : List (Pt × Rat)} {A S : List (Nat × Rat)} {o : Nat → Rat} (hL : NowI D c k L) (hA : AllI D k T A) (hT : ∀ g, sumW T g = sumW L g) (hO : OutI S o) (hS : ∀ g, sumW S g = sumW A g) (m : Nat) : o m = modeQ c k m := by
  rw [hO.1, hS, all_done hL hA hT]
def RefI (D : Nat) (c : Nat → Rat) (k : Nat) (L : List (Sw × Rat)) : Prop := (∀ g : Pt → Rat, sumW L (fun s => g (ptOf s)) = expE c k g (begunP 0)) ∧ (∀ y ∈ L, Gr D k y.2) ∧ (∀ y ∈ L, RightS y.1) ∧ L.length ≤ 2 ^ k
theorem RefI.start (D : Nat) (c : Nat → Rat) : RefI D c 0 [(swB 0, 1)] := ⟨fun g => by rw [sumW, sumW, expE]; show 1 * g (begunP 0) + 0 = g (begunP 0); grind, fun y hy => by
  obtain rfl := List.mem_singleton.1 hy; exact Gr.one D 0, fun y hy => by
  obtain rfl := List.mem_singleton.1 hy; exact swB_right (by omega), Nat.le_refl _⟩
theorem RefI.nn {D k : Nat} {c : Nat → Rat} {L : List (Sw × Rat)} (h : RefI D c k L) : ∀ y ∈ L, 0 ≤ y.2 := fun y hy => (h.2.1 y hy).nn
theorem RefI.one {D k : Nat} {c : Nat → Rat} {L : List (Sw × Rat)} (h : RefI D c k L) : sumW L (fun _ => 1) = 1 := by
  rw [h.1 (fun _ => 1)]; exact expE_const c 1 k _
theorem RefI.le1 {D k : Nat} {c : Nat → Rat} {L : List (Sw × Rat)} (h : RefI D c k L) : ∀ y ∈ L, y.2 ≤ 1 := fun y hy => by
  have := sumW_ge hy h.nn
  rwa [h.one] at this
def RmidI (D : Nat) (c : Nat → Rat) (k i : Nat) (L M : List (Sw × Rat)) : Prop := (∀ g : Pt → Rat, sumW M (fun s => g (ptOf s)) = sumW (L.take i) (fun s => oneE c g (ptOf s))) ∧ (∀ y ∈ M, Gr D (k + 1) y.2) ∧ (∀ y ∈ M, RightS y.1) ∧ M.length ≤ 2 * i
theorem RmidI.start (D : Nat) (c : Nat → Rat) (k : Nat) (L : List (Sw × Rat)) : RmidI D c k 0 L [] := ⟨fun g => by rw [List.take_zero, sumW, sumW], fun y hy => by simp at hy, fun y hy => by simp at hy, Nat.zero_le _⟩
theorem RmidI.total {D k i : Nat} {c : Nat → Rat} {L M : List (Sw × Rat)} (h : RmidI D c k i L M) : sumW M (fun _ => 1) = sumW (L.take i) (fun _ => 1) := by
  have := h.1 (fun _ => 1)
  rw [this]
  exact congrArg _ (funext fun p => oneE_const c 1 _)
end Go.Proofs.YthmmgjieppknkaaGreatDoor
