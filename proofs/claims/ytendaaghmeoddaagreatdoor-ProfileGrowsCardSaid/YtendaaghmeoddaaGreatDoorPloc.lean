/- profile.location: a range over the segments of a closed polyline. -/
import Derived.Test.YtendaaghmeoddaaGreatDoorPsegs
import Derived.Test.YtendaaghmeoddaaGreatDoorPcr
import Derived.Test.YtendaaghmeoddaaGreatDoorPturn
namespace Go.Proofs.YtendaaghmeoddaaGreatDoor
open Go.RowKit Go.Shelf MLab
attribute [local go_sem] Oper.semAt_some

theorem Boxed.keptL {W w1 w' : World} {B : Nat} {t : TypeId} {v : Value} (h : Boxed W B t v) (hb : Below w1.heap.size w1 w') (he : w1.heap = W.heap := by rfl) : Boxed w' B t v := by
  have hl := h.lt
  rw [← he] at hl
  have h2 := hb.block B hl
  rw [he] at h2
  exact h2.trans h
theorem Blk.keptL {W w1 w' : World} {B : Nat} {t : TypeId} {cs : Array Value} (h : Blk W B t cs) (hb : Below w1.heap.size w1 w') (he : w1.heap = W.heap := by rfl) : Blk w' B t cs := by
  have hl := h.lt
  rw [← he] at hl
  have h2 := hb.block B hl
  rw [he] at h2
  exact h2.trans h
/-- The sign that flips at each crossing. -/
def lsg (f : Nat → Bool) (l : List Nat) : Int := l.foldl (fun s j => if f j then -s else s) (-1)
theorem lsg_snoc (f : Nat → Bool) (l : List Nat) (x : Nat) : lsg f (l ++ [x]) = if f x then -lsg f l else lsg f l := by simp [lsg]
theorem lsg_upto (f : Nat → Bool) : ∀ n, lsg f (List.range n) = if par f n then 1 else -1
  | 0 => rfl
  | n + 1 => by
    rw [List.range_succ, lsg_snoc, lsg_upto f n]
    rw [show par f (n + 1) = (par f n ^^ f n) from rfl]
    cases par f n <;> cases f n <;> rfl
theorem lsg_or (f : Nat → Bool) : ∀ l : List Nat, lsg f l = 1 ∨ lsg f l = -1 := by
  suffices h : ∀ (l : List Nat) (z : Int), (z = 1 ∨ z = -1) → (l.foldl (fun s j => if f j then -s else s) z = 1 ∨ l.foldl (fun s j => if f j then -s else s) z = -1) from fun l => h l (-1) (.inr rfl)
  intro l
  induction l with
  | nil => exact fun z h => h
  | cons x l ih => intro z h; rw [List.foldl_cons]; apply ih; split <;> omega

set_option maxRecDepth 100000 in
set_option maxHeartbeats 4000000 in
theorem ploc_ray (w : World) (v : Value) (L : List S2) (px py : Int) (s : ByteArray) (hv : Pts w v L) (hL : L.length ≤ 64) (hr : RightS L) (hp : Co px ∧ Co py) (hs : (s.toList == [48]) = false) :
    Calls Tryz.prog 47 #[v, .agg #[.int .i64 px, .int .i64 py], .string s] w fun e w' => e = .returned (.int .i64 (if par (cr L (px, py)) L.length then 1 else -1)) ∧ Below w.heap.size w w' := by
  obtain ⟨R, hR⟩ : ∃ R, (if par (cr L (px, py)) L.length then (1 : Int) else -1) = R := ⟨_, rfl⟩
  rw [hR]
  have HR := hide hR
  clear hR
  have HV := hide hv
  have HRT := hide hr
  have HP := hide hp
  have hlow : ∀ b off len cap, v = .slice (some ⟨b, off, none⟩) len cap → 0 < len → b < w.heap.size := by
    obtain ⟨A, c, rfl, hc⟩ := hv
    intro b off len cap h h0
    obtain ⟨rfl, rfl, rfl⟩ : A = some ⟨b, off, none⟩ ∧ L.length = len ∧ c = cap := by simpa using h
    obtain ⟨b', off', hA, hcell⟩ := hc h0
    obtain ⟨rfl, rfl⟩ : b = b' ∧ off = off' := by simpa using hA
    exact block_lt_of_cell (hcell 0 _ (gP_eq h0)).1
  obtain ⟨A, c, rfl, _⟩ := id hv
  have HLOW := hide hlow
  clear hv hlow hr hp
  refine (callsIn_wide (n := 6)).1 ?_
  refine callsIn_of_wp_marks Tryz.func47 rfl trivial ?_ rfl
  simp only [Tryz.ntmps47, List.size_toArray, List.length_cons, List.length_nil, Nat.reduceAdd, Nat.reduceSub, Array.replicate_succ, Array.replicate_zero, List.push_toArray, List.append_toArray, List.nil_append, List.cons_append]
  refine wpIn_wide.2 ?_
  go_wp2_with fail
  refine (segments_any _ _ _ _ _).mono ?_
  rintro e w2 ⟨rfl, rfl⟩
  go_wp2_with fail
  have kP := ((Blk.new w 24 #[.int .i64 px, .int .i64 py]).alloc (.cells #[.int .i64 (-1)] 3) |>.alloc (.cells #[.slice A L.length c] 22)).alloc (.cells #[.bool true] 4)
  have bO := ((Boxed.new (w.alloc (.cells #[.int .i64 px, .int .i64 py] 24)) 3 (.int .i64 (-1))).alloc (.cells #[.slice A L.length c] 22)).alloc (.cells #[.bool true] 4)
  have bV := (Boxed.new ((w.alloc (.cells #[.int .i64 px, .int .i64 py] 24)).alloc (.cells #[.int .i64 (-1)] 3)) 22 (.slice A L.length c)).alloc (.cells #[.bool true] 4)
  have bC := Boxed.new (((w.alloc (.cells #[.int .i64 px, .int .i64 py] 24)).alloc (.cells #[.int .i64 (-1)] 3)).alloc (.cells #[.slice A L.length c] 22)) 4 (.bool true)
  simp only [World.size_alloc] at bO bV bC
  have hB0 : Below w.heap.size w ((((w.alloc (.cells #[.int .i64 px, .int .i64 py] 24)).alloc (.cells #[.int .i64 (-1)] 3)).alloc (.cells #[.slice A L.length c] 22)).alloc (.cells #[.bool true] 4)) := allocs_below w [_, _, _, _]
  have hsz : ((((w.alloc (.cells #[.int .i64 px, .int .i64 py] 24)).alloc (.cells #[.int .i64 (-1)] 3)).alloc (.cells #[.slice A L.length c] 22)).alloc (.cells #[.bool true] 4)).heap.size = w.heap.size + 4 := by simp
  obtain ⟨W0, hW0⟩ : ∃ W0, (((w.alloc (.cells #[.int .i64 px, .int .i64 py] 24)).alloc (.cells #[.int .i64 (-1)] 3)).alloc (.cells #[.slice A L.length c] 22)).alloc (.cells #[.bool true] 4) = W0 := ⟨_, rfl⟩
  rw [hW0] at kP bO bV bC hB0 hsz ⊢
  clear hW0
  refine (wpIn_wide (n := 6)).1 ?_
  refine wpIn_rangeFunc_ownH rfl (by omega) (gf := 95) (lb := #[.pointer (some ⟨w.heap.size + 2, 0, none⟩), .pointer (some ⟨w.heap.size + 3, 0, none⟩)]) rfl trivial (enters_of Tryz.func95 (by kernel_rfl) rfl)
    (segments_stops 5 (by omega) (w.heap.size + 2) (w.heap.size + 3) w.heap.size (.slice A L.length c) L true hL W0 (by omega) bV.cell bC.cell (HV.out.below hB0) HLOW.out) KpS.trans (KpS.put (by omega)) (Below.refl _ _) (fun _ => rfl)
    (fun pre W => Boxed W (w.heap.size + 1) 3 (.int .i64 (lsg (cr L (px, py)) pre)) ∧ Below w.heap.size w W ∧ Blk W w.heap.size 24 #[.int .i64 px, .int .i64 py])
    (fun _ _ _ => False)
    (fun pre X Y row hs hg hr => ?own)
    (fun _ _ _ _ _ hs _ _ => hs)
    ⟨bO, hB0, kP⟩
    (fun x a' W => ∃ B9, Blk W B9 89 #[.int .i64 (gP L x).1, .int .i64 (gP L x).2, .int .i64 (nx L x).1, .int .i64 (nx L x).2] ∧ a' = { tmps := #[.slice A L.length c, .agg #[.int .i64 px, .int .i64 py], .string s, undef, .pointer (some ⟨w.heap.size, 0, none⟩), undef, .int .i64 0, .pointer (some ⟨w.heap.size + 1, 0, none⟩), undef, .pointer (some ⟨B9, 0, none⟩), .string s, .bool false, .slice A L.length c, .func (.func 95) #[] #[.pointer (some ⟨w.heap.size + 2, 0, none⟩), .pointer (some ⟨w.heap.size + 3, 0, none⟩)], .int .i64 (x : Int), .agg #[.int .i64 (gP L x).1, .int .i64 (gP L x).2, .int .i64 (nx L x).1, .int .i64 (nx L x).2], undef, undef, undef, undef, undef, undef], defers := [] })
    (fun x a' _ X Y row hs hg hr => by
      obtain ⟨B9, h1, h3⟩ := hs
      refine ⟨B9, h1.grown hg (fun e => ?_), h3⟩
      obtain ⟨o, ho, hc⟩ := (hr B9 e.symm).2; rw [show X.heap[B9]? = _ from h1] at ho; cases ho; cases hc)
    ?assign ?body ?done ?stop
  case own =>
    obtain ⟨h1, h2, h3⟩ := hs
    exact ⟨(boxed_own _ _ _) _ X Y row h1 hg (fun r e => (hr r e).2), (ownFrom_below (β := Unit) (Nat.le_refl _) (by omega)) () X Y row h2 hg hr, h3.grown hg (fun e => by
      obtain ⟨o, ho, hc⟩ := (hr w.heap.size e.symm).2; rw [show X.heap[w.heap.size]? = _ from h3] at ho; cases ho; cases hc)⟩
  case assign =>
    rintro l pre x W K ⟨bO1, hB1, kP1⟩ hK
    simp only [encS]
    gi_wp2
    have hA2 := allocs_below W [.cells #[.int .i64 (gP L x).1, .int .i64 (gP L x).2, .int .i64 (nx L x).1, .int .i64 (nx L x).2] 89]
    refine hK _ _ (keepsFrom_below hA2) (KpS.of_below hB1.size hA2) ⟨bO1.alloc _, hB1.trans (hA2.mono hB1.size), kP1.alloc _⟩ ⟨W.heap.size, Blk.new W _ _, rfl⟩
  case body =>
    rintro l pre x a' W hl _ ⟨bO1, hB1, kP1⟩ ⟨B9, h9, rfl⟩ hlt
    have HB1' := hide hB1
    have hf := pcr_any W (gP L x).1 (gP L x).2 (nx L x).1 (nx L x).2 px py (HRT.out _).1 (HRT.out _).2 (HRT.out _).1 (HRT.out _).2 HP.out.1 HP.out.2
    obtain ⟨z, hz⟩ : ∃ z, lsg (cr L (px, py)) pre = z := ⟨_, rfl⟩
    have hz1 := lsg_or (cr L (px, py)) pre
    rw [hz] at bO1 hz1
    have hwz : IntKind.i64.wrap (-z) = -z := IntWalk.i64_in _ (by omega)
    have HZ := hide hz
    clear hB1 hz hz1
    have cO := Boxed.cell bO1
    have fO := Boxed.frozen bO1
    have c90 := (Blk.cell h9 0).trans rfl
    have c91 := (Blk.cell h9 1).trans rfl
    have c92 := (Blk.cell h9 2).trans rfl
    have c93 := (Blk.cell h9 3).trans rfl
    have p0 := (Blk.cell kP1 0).trans rfl
    have p1 := (Blk.cell kP1 1).trans rfl
    have hd1 : 1 ≤ 6 - 1 - 1 := by omega
    have hlt1 : w.heap.size < w.heap.size + 1 := by omega
    by_cases hc : crs ((gP L x).1, (gP L x).2) ((nx L x).1, (nx L x).2) (px, py) = true
    · rw [hc] at hf
      have hc' : cr L (px, py) x = true := hc
      have HF := hide hf
      have HC := hide hc'
      clear hf hc hc'
      gi_wp2
      refine ⟨trivial, (CallsIn.inRound l (callsIn_wide.2 HF.out)).mono ?_⟩
      rintro e w5 ⟨rfl, hb⟩
      clear cO fO c90 c91 c92 c93 p0 p1
      replace bO1 : Boxed w5 (w.heap.size + 1) 3 (.int .i64 z) := Boxed.keptL (W := W) bO1 hb
      replace kP1 := kP1.keptL hb
      have HBB := hide hb
      have HB5 := hide (HB1'.out.trans (hb.mono HB1'.out.size))
      have cO := Boxed.cell bO1
      have fO := Boxed.frozen bO1
      clear hb
      gi_wp2
      all_goals (try go_bits)
      all_goals exact ⟨(keepsFrom_below HBB.out).trans ((KeepsOthers.setCell _ _ _).from _), (KpS.of_below HB1'.out.size HBB.out).trans ⟨(Below.refl _ _).setCell (p := ⟨w.heap.size + 1, 0, none⟩) (Nat.le_of_lt hlt1) _, fun e => (World.cell?_of_block (Below.heap_setCell _ _ _ _ (by simp))).trans e, fun e => (World.cell?_of_block (Below.heap_setCell _ _ _ _ (by simp))).trans e⟩, by rw [lsg_snoc, if_pos HC.out, HZ.out]; exact bO1.set _, HB5.out.setCell (p := ⟨w.heap.size + 1, 0, none⟩) (Nat.le_of_lt hlt1) _, kP1.far (p := ⟨w.heap.size + 1, 0, none⟩) (by show w.heap.size ≠ w.heap.size + 1; omega) _⟩
    · rw [Bool.not_eq_true _ |>.mp hc] at hf
      have hc' : ¬ cr L (px, py) x = true := hc
      have HF := hide hf
      have HC := hide hc'
      clear hf hc hc'
      gi_wp2
      refine ⟨trivial, (CallsIn.inRound l (callsIn_wide.2 HF.out)).mono ?_⟩
      rintro e w5 ⟨rfl, hb⟩
      clear cO fO c90 c91 c92 c93 p0 p1
      replace bO1 : Boxed w5 (w.heap.size + 1) 3 (.int .i64 z) := Boxed.keptL (W := W) bO1 hb
      replace kP1 := kP1.keptL hb
      have HBB := hide hb
      have HB5 := hide (HB1'.out.trans (hb.mono HB1'.out.size))
      have cO := Boxed.cell bO1
      have fO := Boxed.frozen bO1
      clear hb
      gi_wp2
      all_goals (try go_bits)
      all_goals exact ⟨keepsFrom_below HBB.out, KpS.of_below HB1'.out.size HBB.out, by rw [lsg_snoc, if_neg HC.out, HZ.out]; exact bO1, HB5.out, kP1⟩
  case done =>
    rintro D ys W hD rfl ⟨bO1, hB1, kP1⟩ hK
    have cO := Boxed.cell bO1
    rw [lsg_upto] at cO
    rw [show segN L true = L.length from rfl, HR.out] at cO
    go_wp2_with fail
    refine ⟨by simp, .inl ⟨_, _, rfl, run_takeDeferred hK, ?_⟩⟩
    exact ⟨_, results_tmp rfl _ _ _, rfl, hB1.trans (belowK_b (w := w) (Nat.le_refl _) W D _ _ (by omega) hK rfl rfl)⟩
  case stop =>
    rintro D c2 pre W _ _ h _
    exact h.elim

set_option maxRecDepth 100000 in
theorem ploc_on (w : World) (v : Value) (L : List S2) (px py : Int) (s : ByteArray) (hv : Pts w v L) (hs : (s.toList == [48]) = true) :
    Calls Tryz.prog 47 #[v, .agg #[.int .i64 px, .int .i64 py], .string s] w fun e w' => e = .returned (.int .i64 0) ∧ Below w.heap.size w w' := by
  obtain ⟨A, c, rfl, _⟩ := id hv
  clear hv
  go_enter Tryz.func47, Tryz.ntmps47
  go_wp2_with fail
  go_ret
  exact ⟨rfl, allocs_below w [_]⟩
end Go.Proofs.YtendaaghmeoddaaGreatDoor
