/- profile.nearest: a range over the segments of a polyline, at right points. Under way. -/
import Derived.Test.YtendaaghmeoddaaGreatDoorPsegs
import Derived.Test.YtendaaghmeoddaaGreatDoorPord
namespace Go.Proofs.YtendaaghmeoddaaGreatDoor
open Go.RowKit Go.Shelf MLab
attribute [local go_sem] Oper.semAt_some

theorem Boxed.keptN {W w1 w' : World} {B : Nat} {t : TypeId} {v : Value} (h : Boxed W B t v) (hb : Below w1.heap.size w1 w') (he : w1.heap = W.heap := by rfl) : Boxed w' B t v := by
  have hl := h.lt
  rw [← he] at hl
  have h2 := hb.block B hl
  rw [he] at h2
  exact h2.trans h
theorem Blk.keptN {W w1 w' : World} {B : Nat} {t : TypeId} {cs : Array Value} (h : Blk W B t cs) (hb : Below w1.heap.size w1 w') (he : w1.heap = W.heap := by rfl) : Blk w' B t cs := by
  have hl := h.lt
  rw [← he] at hl
  have h2 := hb.block B hl
  rw [he] at h2
  exact h2.trans h
theorem KpS.set {n Bs Bc : Nat} {v u : Value} (W : World) (d : Nat) (y : Value) (hn : n ≤ d) (h1 : Bs ≠ d) (h2 : Bc ≠ d) : KpS n Bs Bc v u W (W.setCell ⟨d, 0, none⟩ y) :=
  ⟨(Below.refl _ _).setCell (p := ⟨d, 0, none⟩) hn _, fun e => (World.cell?_of_block (Below.heap_setCell _ _ _ _ h1)).trans e, fun e => (World.cell?_of_block (Below.heap_setCell _ _ _ _ h2)).trans e⟩
theorem rt_ne (q : Rat) : ¬ RT q = [] := by
  unfold RT
  split
  · exact T_ne _
  · simp
/-- The least distance so far and its index; none at the beginning. -/
def nst (d : Nat → Rat) (l : List Nat) : Option (Rat × Nat) := l.foldl (fun s x => match s with | none => some (d x, x) | some b => if d x < b.1 then some (d x, x) else some b) none
theorem nst_snoc (d : Nat → Rat) (l : List Nat) (x : Nat) : nst d (l ++ [x]) = match nst d l with | none => some (d x, x) | some b => if d x < b.1 then some (d x, x) else some b := by simp [nst]
theorem nst_upto (d : Nat → Rat) : ∀ n, nst d (List.range (n + 1)) = some (nearF d n)
  | 0 => rfl
  | n + 1 => by
    rw [List.range_succ, nst_snoc, nst_upto d n]
    rw [show nearF d (n + 1) = if d (n + 1) < (nearF d n).1 then (d (n + 1), n + 1) else nearF d n from rfl]
    show (if d (n + 1) < (nearF d n).1 then some (d (n + 1), n + 1) else some (nearF d n)) = _
    split <;> rfl
theorem nst_sz {d : Nat → Rat} {m : Nat} (h : ∀ j, Sz m m (d j)) : ∀ (l : List Nat) (b : Rat × Nat), nst d l = some b → Sz m m b.1 := by
  suffices k : ∀ (l : List Nat) (s : Option (Rat × Nat)), (∀ b, s = some b → Sz m m b.1) → ∀ b, l.foldl (fun s x => match s with | none => some (d x, x) | some b => if d x < b.1 then some (d x, x) else some b) s = some b → Sz m m b.1 from fun l b e => k l none (fun _ e => by cases e) b e
  intro l
  induction l with
  | nil => exact fun s hs b e => hs b e
  | cons x l ih =>
    intro s hs b e
    rw [List.foldl_cons] at e
    refine ih _ ?_ b e
    intro b2 e2
    rcases s with _ | s
    · cases e2; exact h x
    · simp only at e2
      split at e2
      · cases e2; exact h x
      · cases e2; exact hs _ rfl
def nsT : Option (Rat × Nat) → ByteArray
  | none => ⟨#[]⟩
  | some b => ⟨(RT b.1).toArray⟩
def nsA : Option (Rat × Nat) → Int
  | none => 0
  | some b => (b.2 : Int)

set_option maxRecDepth 100000 in
set_option maxHeartbeats 4000000 in
theorem pnear_ok (w : World) (v : Value) (L : List S2) (c0 : Bool) (px py : Int) (hs : Std w) (hv : Pts w v L) (hL : L.length ≤ 64) (h2 : 2 ≤ L.length) (hr : RightS L) (hp : Co px ∧ Co py) :
    Calls Tryz.prog 50 #[v, .bool c0, .agg #[.int .i64 px, .int .i64 py]] w fun e w' => e = .returned (.tuple #[.string ⟨(RT (nearF (dq L (px, py)) (segN L c0 - 1)).1).toArray⟩, .int .i64 (((nearF (dq L (px, py)) (segN L c0 - 1)).2 : Nat) : Int), .int .i64 0]) ∧ Below w.heap.size w w' := by
  have HV := hide hv
  have HRT := hide hr
  have HP := hide hp
  have HS := hide hs
  have hlow : ∀ b off len cap, v = .slice (some ⟨b, off, none⟩) len cap → 0 < len → b < w.heap.size := by
    obtain ⟨A, c, rfl, hc⟩ := hv
    intro b off len cap h h0
    obtain ⟨rfl, rfl, rfl⟩ : A = some ⟨b, off, none⟩ ∧ L.length = len ∧ c = cap := by simpa using h
    obtain ⟨b', off', hA, hcell⟩ := hc h0
    obtain ⟨rfl, rfl⟩ : b = b' ∧ off = off' := by simpa using hA
    exact block_lt_of_cell (hcell 0 _ (gP_eq h0)).1
  obtain ⟨A, c, rfl, _⟩ := id hv
  have HLOW := hide hlow
  have hN1 : 1 ≤ segN L c0 := by unfold segN; split <;> omega
  have HN1 := hide hN1
  obtain ⟨D, hD⟩ : ∃ D, dq L (px, py) = D := ⟨_, rfl⟩
  have HD := hide hD
  rw [hD]
  obtain ⟨RV, hRV⟩ : ∃ r, Value.tuple #[.string ⟨(RT (nearF D (segN L c0 - 1)).1).toArray⟩, .int .i64 (((nearF D (segN L c0 - 1)).2 : Nat) : Int), .int .i64 0] = r := ⟨_, rfl⟩
  rw [hRV]
  have HRV := hide hRV
  clear hRV
  clear hD
  clear hv hlow hr hp hs h2 hN1
  refine (callsIn_wide (n := 6)).1 ?_
  refine callsIn_of_wp_marks Tryz.func50 rfl trivial ?_ rfl
  simp only [Tryz.ntmps50, List.size_toArray, List.length_cons, List.length_nil, Nat.reduceAdd, Nat.reduceSub, Array.replicate_succ, Array.replicate_zero, List.push_toArray, List.append_toArray, List.nil_append, List.cons_append]
  refine wpIn_wide.2 ?_
  go_wp2_with fail
  refine (segments_any _ _ _ _ _).mono ?_
  rintro e w2 ⟨rfl, rfl⟩
  go_wp2_with fail
  have hB0 : Below w.heap.size w ((((((((w.alloc (.cells #[.int .i64 px, .int .i64 py] 24)).alloc (.cells #[.string ⟨#[]⟩] 35)).alloc (.cells #[.int .i64 0] 3)).alloc (.cells #[.int .i64 0] 27)).alloc (.cells #[.string ⟨#[]⟩] 35)).alloc (.cells #[.int .i64 0] 3)).alloc (.cells #[.slice A L.length c] 22)).alloc (.cells #[.bool c0] 4)) := allocs_below w [.cells #[.int .i64 px, .int .i64 py] 24, .cells #[.string ⟨#[]⟩] 35, .cells #[.int .i64 0] 3, .cells #[.int .i64 0] 27, .cells #[.string ⟨#[]⟩] 35, .cells #[.int .i64 0] 3, .cells #[.slice A L.length c] 22, .cells #[.bool c0] 4]
  have kP : Blk ((((((((w.alloc (.cells #[.int .i64 px, .int .i64 py] 24)).alloc (.cells #[.string ⟨#[]⟩] 35)).alloc (.cells #[.int .i64 0] 3)).alloc (.cells #[.int .i64 0] 27)).alloc (.cells #[.string ⟨#[]⟩] 35)).alloc (.cells #[.int .i64 0] 3)).alloc (.cells #[.slice A L.length c] 22)).alloc (.cells #[.bool c0] 4)) w.heap.size 24 #[.int .i64 px, .int .i64 py] := allocs_at w [.cells #[.int .i64 px, .int .i64 py] 24, .cells #[.string ⟨#[]⟩] 35, .cells #[.int .i64 0] 3, .cells #[.int .i64 0] 27, .cells #[.string ⟨#[]⟩] 35, .cells #[.int .i64 0] 3, .cells #[.slice A L.length c] 22, .cells #[.bool c0] 4] 0 rfl
  have bS6 : Boxed ((((((((w.alloc (.cells #[.int .i64 px, .int .i64 py] 24)).alloc (.cells #[.string ⟨#[]⟩] 35)).alloc (.cells #[.int .i64 0] 3)).alloc (.cells #[.int .i64 0] 27)).alloc (.cells #[.string ⟨#[]⟩] 35)).alloc (.cells #[.int .i64 0] 3)).alloc (.cells #[.slice A L.length c] 22)).alloc (.cells #[.bool c0] 4)) (w.heap.size + 1) 35 (.string ⟨#[]⟩) := allocs_at w [.cells #[.int .i64 px, .int .i64 py] 24, .cells #[.string ⟨#[]⟩] 35, .cells #[.int .i64 0] 3, .cells #[.int .i64 0] 27, .cells #[.string ⟨#[]⟩] 35, .cells #[.int .i64 0] 3, .cells #[.slice A L.length c] 22, .cells #[.bool c0] 4] 1 rfl
  have bI7 : Boxed ((((((((w.alloc (.cells #[.int .i64 px, .int .i64 py] 24)).alloc (.cells #[.string ⟨#[]⟩] 35)).alloc (.cells #[.int .i64 0] 3)).alloc (.cells #[.int .i64 0] 27)).alloc (.cells #[.string ⟨#[]⟩] 35)).alloc (.cells #[.int .i64 0] 3)).alloc (.cells #[.slice A L.length c] 22)).alloc (.cells #[.bool c0] 4)) (w.heap.size + 2) 3 (.int .i64 0) := allocs_at w [.cells #[.int .i64 px, .int .i64 py] 24, .cells #[.string ⟨#[]⟩] 35, .cells #[.int .i64 0] 3, .cells #[.int .i64 0] 27, .cells #[.string ⟨#[]⟩] 35, .cells #[.int .i64 0] 3, .cells #[.slice A L.length c] 22, .cells #[.bool c0] 4] 2 rfl
  have bE8 : Boxed ((((((((w.alloc (.cells #[.int .i64 px, .int .i64 py] 24)).alloc (.cells #[.string ⟨#[]⟩] 35)).alloc (.cells #[.int .i64 0] 3)).alloc (.cells #[.int .i64 0] 27)).alloc (.cells #[.string ⟨#[]⟩] 35)).alloc (.cells #[.int .i64 0] 3)).alloc (.cells #[.slice A L.length c] 22)).alloc (.cells #[.bool c0] 4)) (w.heap.size + 3) 27 (.int .i64 0) := allocs_at w [.cells #[.int .i64 px, .int .i64 py] 24, .cells #[.string ⟨#[]⟩] 35, .cells #[.int .i64 0] 3, .cells #[.int .i64 0] 27, .cells #[.string ⟨#[]⟩] 35, .cells #[.int .i64 0] 3, .cells #[.slice A L.length c] 22, .cells #[.bool c0] 4] 3 rfl
  have bB9 : Boxed ((((((((w.alloc (.cells #[.int .i64 px, .int .i64 py] 24)).alloc (.cells #[.string ⟨#[]⟩] 35)).alloc (.cells #[.int .i64 0] 3)).alloc (.cells #[.int .i64 0] 27)).alloc (.cells #[.string ⟨#[]⟩] 35)).alloc (.cells #[.int .i64 0] 3)).alloc (.cells #[.slice A L.length c] 22)).alloc (.cells #[.bool c0] 4)) (w.heap.size + 4) 35 (.string ⟨#[]⟩) := allocs_at w [.cells #[.int .i64 px, .int .i64 py] 24, .cells #[.string ⟨#[]⟩] 35, .cells #[.int .i64 0] 3, .cells #[.int .i64 0] 27, .cells #[.string ⟨#[]⟩] 35, .cells #[.int .i64 0] 3, .cells #[.slice A L.length c] 22, .cells #[.bool c0] 4] 4 rfl
  have bA10 : Boxed ((((((((w.alloc (.cells #[.int .i64 px, .int .i64 py] 24)).alloc (.cells #[.string ⟨#[]⟩] 35)).alloc (.cells #[.int .i64 0] 3)).alloc (.cells #[.int .i64 0] 27)).alloc (.cells #[.string ⟨#[]⟩] 35)).alloc (.cells #[.int .i64 0] 3)).alloc (.cells #[.slice A L.length c] 22)).alloc (.cells #[.bool c0] 4)) (w.heap.size + 5) 3 (.int .i64 0) := allocs_at w [.cells #[.int .i64 px, .int .i64 py] 24, .cells #[.string ⟨#[]⟩] 35, .cells #[.int .i64 0] 3, .cells #[.int .i64 0] 27, .cells #[.string ⟨#[]⟩] 35, .cells #[.int .i64 0] 3, .cells #[.slice A L.length c] 22, .cells #[.bool c0] 4] 5 rfl
  have bV : Boxed ((((((((w.alloc (.cells #[.int .i64 px, .int .i64 py] 24)).alloc (.cells #[.string ⟨#[]⟩] 35)).alloc (.cells #[.int .i64 0] 3)).alloc (.cells #[.int .i64 0] 27)).alloc (.cells #[.string ⟨#[]⟩] 35)).alloc (.cells #[.int .i64 0] 3)).alloc (.cells #[.slice A L.length c] 22)).alloc (.cells #[.bool c0] 4)) (w.heap.size + 6) 22 (.slice A L.length c) := allocs_at w [.cells #[.int .i64 px, .int .i64 py] 24, .cells #[.string ⟨#[]⟩] 35, .cells #[.int .i64 0] 3, .cells #[.int .i64 0] 27, .cells #[.string ⟨#[]⟩] 35, .cells #[.int .i64 0] 3, .cells #[.slice A L.length c] 22, .cells #[.bool c0] 4] 6 rfl
  have bC : Boxed ((((((((w.alloc (.cells #[.int .i64 px, .int .i64 py] 24)).alloc (.cells #[.string ⟨#[]⟩] 35)).alloc (.cells #[.int .i64 0] 3)).alloc (.cells #[.int .i64 0] 27)).alloc (.cells #[.string ⟨#[]⟩] 35)).alloc (.cells #[.int .i64 0] 3)).alloc (.cells #[.slice A L.length c] 22)).alloc (.cells #[.bool c0] 4)) (w.heap.size + 7) 4 (.bool c0) := allocs_at w [.cells #[.int .i64 px, .int .i64 py] 24, .cells #[.string ⟨#[]⟩] 35, .cells #[.int .i64 0] 3, .cells #[.int .i64 0] 27, .cells #[.string ⟨#[]⟩] 35, .cells #[.int .i64 0] 3, .cells #[.slice A L.length c] 22, .cells #[.bool c0] 4] 7 rfl
  have hsz : ((((((((w.alloc (.cells #[.int .i64 px, .int .i64 py] 24)).alloc (.cells #[.string ⟨#[]⟩] 35)).alloc (.cells #[.int .i64 0] 3)).alloc (.cells #[.int .i64 0] 27)).alloc (.cells #[.string ⟨#[]⟩] 35)).alloc (.cells #[.int .i64 0] 3)).alloc (.cells #[.slice A L.length c] 22)).alloc (.cells #[.bool c0] 4)).heap.size = w.heap.size + 8 := allocs_size w [.cells #[.int .i64 px, .int .i64 py] 24, .cells #[.string ⟨#[]⟩] 35, .cells #[.int .i64 0] 3, .cells #[.int .i64 0] 27, .cells #[.string ⟨#[]⟩] 35, .cells #[.int .i64 0] 3, .cells #[.slice A L.length c] 22, .cells #[.bool c0] 4]
  obtain ⟨W0, hW0⟩ : ∃ W0, ((((((((w.alloc (.cells #[.int .i64 px, .int .i64 py] 24)).alloc (.cells #[.string ⟨#[]⟩] 35)).alloc (.cells #[.int .i64 0] 3)).alloc (.cells #[.int .i64 0] 27)).alloc (.cells #[.string ⟨#[]⟩] 35)).alloc (.cells #[.int .i64 0] 3)).alloc (.cells #[.slice A L.length c] 22)).alloc (.cells #[.bool c0] 4)) = W0 := ⟨_, rfl⟩
  rw [hW0] at kP bS6 bI7 bE8 bB9 bA10 bV bC hB0 hsz ⊢
  clear hW0
  refine (wpIn_wide (n := 6)).1 ?_
  refine wpIn_rangeFunc_ownH rfl (by omega) (gf := 95) (lb := #[.pointer (some ⟨w.heap.size + 6, 0, none⟩), .pointer (some ⟨w.heap.size + 7, 0, none⟩)]) rfl trivial (enters_of Tryz.func95 (by kernel_rfl) rfl)
    (segments_stops 5 (by omega) (w.heap.size + 6) (w.heap.size + 7) w.heap.size (.slice A L.length c) L c0 hL W0 (by omega) bV.cell bC.cell (HV.out.below hB0) HLOW.out) KpS.trans (KpS.put (by omega)) (Below.refl _ _) (fun _ => rfl)
    (fun pre W => Boxed W (w.heap.size + 4) 35 (.string (nsT (nst D pre))) ∧ Boxed W (w.heap.size + 5) 3 (.int .i64 (nsA (nst D pre))) ∧ Boxed W (w.heap.size + 1) 35 (.string ⟨#[]⟩) ∧ Boxed W (w.heap.size + 2) 3 (.int .i64 0) ∧ Boxed W (w.heap.size + 3) 27 (.int .i64 0) ∧ Below w.heap.size w W ∧ Blk W w.heap.size 24 #[.int .i64 px, .int .i64 py])
    (fun _ _ _ => False)
    (fun pre X Y row hs hg hr => ?own)
    (fun _ _ _ _ _ hs _ _ => hs)
    ⟨bB9, bA10, bS6, bI7, bE8, hB0, kP⟩
    (fun x a' W => ∃ B9, Blk W B9 89 #[.int .i64 (gP L x).1, .int .i64 (gP L x).2, .int .i64 (nx L x).1, .int .i64 (nx L x).2] ∧ a' = { tmps := #[.slice A L.length c, .bool c0, .agg #[.int .i64 px, .int .i64 py], undef, undef, .pointer (some ⟨w.heap.size, 0, none⟩), .pointer (some ⟨w.heap.size + 1, 0, none⟩), .pointer (some ⟨w.heap.size + 2, 0, none⟩), .pointer (some ⟨w.heap.size + 3, 0, none⟩), .pointer (some ⟨w.heap.size + 4, 0, none⟩), .pointer (some ⟨w.heap.size + 5, 0, none⟩), .int .i64 (x : Int), .pointer (some ⟨B9, 0, none⟩), undef, undef, .slice A L.length c, .bool c0, .func (.func 95) #[] #[.pointer (some ⟨w.heap.size + 6, 0, none⟩), .pointer (some ⟨w.heap.size + 7, 0, none⟩)], .int .i64 (x : Int), .agg #[.int .i64 (gP L x).1, .int .i64 (gP L x).2, .int .i64 (nx L x).1, .int .i64 (nx L x).2], undef, undef, undef, undef, undef, undef, undef, undef, undef, undef, undef, undef, undef, undef, undef, undef, undef, undef, undef, undef, undef, undef, undef, undef], defers := [] })
    (fun x a' _ X Y row hs hg hr => by
      obtain ⟨B9, h1, h3⟩ := hs
      refine ⟨B9, h1.grown hg (fun e => ?_), h3⟩
      obtain ⟨o, ho, hc⟩ := (hr B9 e.symm).2; rw [show X.heap[B9]? = _ from h1] at ho; cases ho; cases hc)
    ?assign ?body ?done ?stop
  case own =>
    obtain ⟨h1, h2, h3, h4, h5, h6, h7⟩ := hs
    exact ⟨(boxed_own _ _ _) _ X Y row h1 hg (fun r e => (hr r e).2), (boxed_own _ _ _) _ X Y row h2 hg (fun r e => (hr r e).2), (boxed_own (β := Unit) _ _ (fun _ => _)) () X Y row h3 hg (fun r e => (hr r e).2), (boxed_own (β := Unit) _ _ (fun _ => _)) () X Y row h4 hg (fun r e => (hr r e).2), (boxed_own (β := Unit) _ _ (fun _ => _)) () X Y row h5 hg (fun r e => (hr r e).2), (ownFrom_below (β := Unit) (Nat.le_refl _) (by omega)) () X Y row h6 hg hr, h7.grown hg (fun e => by
      obtain ⟨o, ho, hc⟩ := (hr w.heap.size e.symm).2; rw [show X.heap[w.heap.size]? = _ from h7] at ho; cases ho; cases hc)⟩
  case assign =>
    rintro l pre x W K ⟨b1, b2, b3, b4, b5, hB1, kP1⟩ hK
    simp only [encS]
    gi_wp2
    have hA2 := allocs_below W [.cells #[.int .i64 (gP L x).1, .int .i64 (gP L x).2, .int .i64 (nx L x).1, .int .i64 (nx L x).2] 89]
    refine hK _ _ (keepsFrom_below hA2) (KpS.of_below hB1.size hA2) ⟨b1.alloc _, b2.alloc _, b3.alloc _, b4.alloc _, b5.alloc _, hB1.trans (hA2.mono hB1.size), kP1.alloc _⟩ ⟨W.heap.size, Blk.new W _ _, rfl⟩
  case body =>
    rintro l pre x a' W hl _ ⟨b1, b2, b3, b4, b5, hB1, kP1⟩ ⟨B9, h9, rfl⟩ hlt
    have HB1' := hide hB1
    have HF := hide (pseg_any W px py (gP L x).1 (gP L x).2 (nx L x).1 (nx L x).2 (HS.out.below hB1 (Nat.le_refl _)) HP.out.1 HP.out.2 (HRT.out _).1 (HRT.out _).2 (HRT.out _).1 (HRT.out _).2)
    have hDx : segV px py (gP L x).1 (gP L x).2 (nx L x).1 (nx L x).2 = D x := by rw [← HD.out]; rfl
    rw [hDx] at HF
    have c90 := (Blk.cell h9 0).trans rfl
    have c91 := (Blk.cell h9 1).trans rfl
    have c92 := (Blk.cell h9 2).trans rfl
    have c93 := (Blk.cell h9 3).trans rfl
    have p0 := (Blk.cell kP1 0).trans rfl
    have p1 := (Blk.cell kP1 1).trans rfl
    have hd1 : 1 ≤ 6 - 1 - 1 := by omega
    clear hDx hB1
    gi_wp2
    refine ⟨trivial, (CallsIn.inRound l (callsIn_wide.2 HF.out)).mono ?_⟩
    rintro e w5 ⟨rfl, hb⟩
    obtain ⟨st, hst⟩ : ∃ st, nst D pre = st := ⟨_, rfl⟩
    rw [hst] at b1 b2
    have HST := hide hst
    clear hst c90 c91 c92 c93 p0 p1 h9
    replace b1 : Boxed w5 (w.heap.size + 4) 35 (.string (nsT st)) := Boxed.keptN (W := W) b1 hb
    replace b2 : Boxed w5 (w.heap.size + 5) 3 (.int .i64 (nsA st)) := Boxed.keptN (W := W) b2 hb
    replace b3 := Boxed.keptN (W := W) b3 hb
    replace b4 := Boxed.keptN (W := W) b4 hb
    replace b5 := Boxed.keptN (W := W) b5 hb
    replace kP1 := Blk.keptN (W := W) kP1 hb
    have HBB := hide hb
    have HB5 := hide (HB1'.out.trans (hb.mono HB1'.out.size))
    clear hb
    have cB := b1.cell
    have fB := b1.frozen
    have cA := b2.cell
    have fA := b2.frozen
    rcases st with _ | b
    · simp only [nsT, nsA] at cB cA
      gi_wp2
      refine ⟨trivial, ?_⟩
      gi_wp2
      all_goals (try go_bits)
      exact ⟨(keepsFrom_below HBB.out).trans (((KeepsOthers.setCell _ _ _).from _).trans ((KeepsOthers.setCell _ _ _).from _)), (KpS.of_below HB1'.out.size HBB.out).trans ((KpS.set _ _ _ (by omega) (by omega) (by omega)).trans (KpS.set _ _ _ (by omega) (by omega) (by omega))), by rw [nst_snoc, HST.out]; exact (b1.set _).other (by omega) _, by rw [nst_snoc, HST.out]; exact (b2.other (by omega) _).set _, (b3.other (by omega) _).other (by omega) _, (b4.other (by omega) _).other (by omega) _, (b5.other (by omega) _).other (by omega) _, (HB5.out.setCell (p := ⟨w.heap.size + 4, 0, none⟩) (Nat.le_add_right _ _) _).setCell (p := ⟨w.heap.size + 5, 0, none⟩) (Nat.le_add_right _ _) _, (kP1.far (p := ⟨w.heap.size + 4, 0, none⟩) (by show w.heap.size ≠ w.heap.size + 4; omega) _).far (p := ⟨w.heap.size + 5, 0, none⟩) (by show w.heap.size ≠ w.heap.size + 5; omega) _⟩
    · simp only [nsT, nsA] at cB cA
      have hne := rt_ne b.1
      have hne2 : (RT b.1).isEmpty = false := by cases h : RT b.1 with | nil => exact absurd h hne | cons _ _ => rfl
      have hzd : ∀ j, Sz 30 30 (D j) := fun j => by rw [← HD.out]; exact dq_sz HRT.out HP.out j
      have hzb : Sz 30 30 b.1 := nst_sz hzd pre b HST.out
      have HO := hide (porder_any w5 ⟨(RT (D x)).toArray⟩ ⟨(RT b.1).toArray⟩ (D x) b.1 rfl rfl (hzd x) hzb (HS.out.below HB5.out (Nat.le_refl _)))
      have hss := cross_neg (D x) b.1
      obtain ⟨sg, hsg⟩ : ∃ s, ((D x).num * b.1.den - b.1.num * (D x).den).sign = s := ⟨_, rfl⟩
      rw [hsg] at HO hss
      clear hzd hzb hsg
      gi_wp2
      refine ⟨trivial, (CallsIn.inRound l (callsIn_wide.2 HO.out)).mono ?_⟩
      rintro e w6 ⟨rfl, hb6⟩
      replace b1 : Boxed w6 (w.heap.size + 4) 35 (.string (nsT (some b))) := Boxed.keptN (W := w5) b1 hb6
      replace b2 : Boxed w6 (w.heap.size + 5) 3 (.int .i64 (nsA (some b))) := Boxed.keptN (W := w5) b2 hb6
      replace b3 := Boxed.keptN (W := w5) b3 hb6
      replace b4 := Boxed.keptN (W := w5) b4 hb6
      replace b5 := Boxed.keptN (W := w5) b5 hb6
      replace kP1 := Blk.keptN (W := w5) kP1 hb6
      have HB6 := hide (HB5.out.trans (hb6.mono HB5.out.size))
      have HBC := hide (HBB.out.trans (hb6.mono HBB.out.size))
      clear hb6 cB fB cA fA
      have cB := b1.cell
      have fB := b1.frozen
      have cA := b2.cell
      have fA := b2.frozen
      by_cases hdb : D x < b.1
      · have hs0 : sg < 0 := hss.2 hdb
        have HDB := hide hdb
        clear hss hdb
        gi_wp2
        all_goals (try go_bits)
        exact ⟨(keepsFrom_below HBC.out).trans (((KeepsOthers.setCell _ _ _).from _).trans ((KeepsOthers.setCell _ _ _).from _)), (KpS.of_below HB1'.out.size HBC.out).trans ((KpS.set _ _ _ (by omega) (by omega) (by omega)).trans (KpS.set _ _ _ (by omega) (by omega) (by omega))), by rw [nst_snoc, HST.out]; simp only [if_pos HDB.out]; exact (b1.set _).other (by omega) _, by rw [nst_snoc, HST.out]; simp only [if_pos HDB.out]; exact (b2.other (by omega) _).set _, (b3.other (by omega) _).other (by omega) _, (b4.other (by omega) _).other (by omega) _, (b5.other (by omega) _).other (by omega) _, (HB6.out.setCell (p := ⟨w.heap.size + 4, 0, none⟩) (Nat.le_add_right _ _) _).setCell (p := ⟨w.heap.size + 5, 0, none⟩) (Nat.le_add_right _ _) _, (kP1.far (p := ⟨w.heap.size + 4, 0, none⟩) (by show w.heap.size ≠ w.heap.size + 4; omega) _).far (p := ⟨w.heap.size + 5, 0, none⟩) (by show w.heap.size ≠ w.heap.size + 5; omega) _⟩
      · have hs0 : ¬ sg < 0 := fun h => hdb (hss.1 h)
        have HDB := hide hdb
        clear hss hdb
        gi_wp2
        all_goals (try go_bits)
        exact ⟨keepsFrom_below HBC.out, KpS.of_below HB1'.out.size HBC.out, by rw [nst_snoc, HST.out]; simp only [if_neg HDB.out]; exact b1, by rw [nst_snoc, HST.out]; simp only [if_neg HDB.out]; exact b2, b3, b4, b5, HB6.out, kP1⟩
  case done =>
    rintro E ys W hE rfl ⟨b1, b2, b3, b4, b5, hB1, kP1⟩ hK
    obtain ⟨N, hN⟩ : ∃ N, segN L c0 = N + 1 := ⟨segN L c0 - 1, by have := HN1.out; omega⟩
    rw [hN, nst_upto] at b1 b2
    have hrv := HRV.out
    rw [hN, Nat.add_sub_cancel] at hrv
    simp only [nsT, nsA] at b1 b2
    obtain ⟨s, hs⟩ : ∃ s : ByteArray, (⟨(RT (nearF D N).1).toArray⟩ : ByteArray) = s := ⟨_, rfl⟩
    obtain ⟨a, ha⟩ : ∃ a : Int, (((nearF D N).2 : Nat) : Int) = a := ⟨_, rfl⟩
    rw [hs] at b1 hrv
    rw [ha] at b2 hrv
    have HRW := hide hrv
    have cB := b1.cell
    have cA := b2.cell
    have c6 := b3.cell
    have f6 := b3.frozen
    have c7 := b4.cell
    have f7 := b4.frozen
    have c8 := b5.cell
    have f8 := b5.frozen
    have HBX := hide hB1
    have HKX := hide hK
    clear hB1 hK hN hs ha hrv
    go_upto_region 10 with (fail)
    go_region
    go_wp2_with fail
    obtain ⟨W3, hW3⟩ : ∃ W3, (((W.setCell ⟨w.heap.size + 1, 0, none⟩ (.string s)).setCell ⟨w.heap.size + 2, 0, none⟩ (.int .i64 a)).setCell ⟨w.heap.size + 3, 0, none⟩ (.int .i64 0)).drew = W3 := ⟨_, rfl⟩
    have hK' : W3.heap[E]? = some (.deferred (some [])) := by
      rw [← hW3]
      exact (((KeepsOthers.setCell _ _ _).trans (KeepsOthers.setCell _ _ _)).trans (KeepsOthers.setCell _ _ _)).same E _ HKX.out rfl
    have d6 : Boxed W3 (w.heap.size + 1) 35 (.string s) := by rw [← hW3]; exact ((b3.set _).other (by omega) _).other (by omega) _
    have d7 : Boxed W3 (w.heap.size + 2) 3 (.int .i64 a) := by rw [← hW3]; exact ((b4.other (by omega) _).set _).other (by omega) _
    have d8 : Boxed W3 (w.heap.size + 3) 27 (.int .i64 0) := by rw [← hW3]; exact ((b5.other (by omega) _).other (by omega) _).set _
    have HB3 : Below w.heap.size w W3 := by rw [← hW3]; exact (((HBX.out.setCell (p := ⟨w.heap.size + 1, 0, none⟩) (Nat.le_add_right _ _) _).setCell (p := ⟨w.heap.size + 2, 0, none⟩) (Nat.le_add_right _ _) _).setCell (p := ⟨w.heap.size + 3, 0, none⟩) (Nat.le_add_right _ _) _).drew
    simp only [Nat.add_assoc, Nat.reduceAdd]
    rw [hW3]
    refine ⟨by simp, .inl ⟨_, _, rfl, run_takeDeferred hK', ?_⟩⟩
    have h6 := cell_kept d6.cell (grownBy_putObj' _ E (.deferred none)) (fun r e => by cases e; exact ⟨_, hK', rfl⟩)
    have h7 := cell_kept d7.cell (grownBy_putObj' _ E (.deferred none)) (fun r e => by cases e; exact ⟨_, hK', rfl⟩)
    have h8 := cell_kept d8.cell (grownBy_putObj' _ E (.deferred none)) (fun r e => by cases e; exact ⟨_, hK', rfl⟩)
    refine ⟨.tuple #[.string s, .int .i64 a, .int .i64 0], ?_, by rw [← HRW.out], HB3.trans (belowK_b (w := w) (Nat.le_refl _) W3 E _ _ (by omega) hK' rfl rfl)⟩
    simp [results, Tryz.results50, go_sem, h6, h7, h8]
  case stop =>
    rintro E c2 pre W _ _ h _
    exact h.elim
end Go.Proofs.YtendaaghmeoddaaGreatDoor
