/- vector.Area: a range over the sides of a polygon. -/
import Derived.Test.YtblfinpfcpglcaaGreatDoorEdges
namespace Go.Proofs.YtblfinpfcpglcaaGreatDoor
open Go.RowKit Go.Shelf MLab
attribute [local go_sem] Oper.semAt_some

theorem Boxed.kept2 {W w1 w' : World} {B : Nat} {t : TypeId} {v : Value} (h : Boxed W B t v) (hb : Below w1.heap.size w1 w') (he : w1.heap = W.heap := by rfl) : Boxed w' B t v := by
  have hl := h.lt
  rw [← he] at hl
  have h2 := hb.block B hl
  rw [he] at h2
  exact h2.trans h
theorem Blk.kept2 {W w1 w' : World} {B : Nat} {t : TypeId} {cs : Array Value} (h : Blk W B t cs) (hb : Below w1.heap.size w1 w') (he : w1.heap = W.heap := by rfl) : Blk w' B t cs := by
  have hl := h.lt
  rw [← he] at hl
  have h2 := hb.block B hl
  rw [he] at h2
  exact h2.trans h

set_option maxRecDepth 100000 in
set_option maxHeartbeats 4000000 in
theorem area_ok (w : World) (v : Value) (L : List S2) (hv : Pts w v L) (hchk : chkPtsN L = 0) (hok : L.all okPts = true) (hL : L.length ≤ 64) :
    Calls Tryz.prog 42 #[v] w fun e w' => e = .returned (.tuple #[.int .i64 (areaUp L L.length), .int .i64 0]) ∧ Below w.heap.size w w' := by
  have hr := right_of_all hok
  have HV := hide hv
  have hlow : ∀ b off len cap, v = .slice (some ⟨b, off, none⟩) len cap → 0 < len → b < w.heap.size := by
    obtain ⟨A, c, rfl, hc⟩ := hv
    intro b off len cap h h0
    obtain ⟨rfl, rfl, rfl⟩ : A = some ⟨b, off, none⟩ ∧ L.length = len ∧ c = cap := by simpa using h
    obtain ⟨b', off', hA, hcell⟩ := hc h0
    obtain ⟨rfl, rfl⟩ : b = b' ∧ off = off' := by simpa using hA
    exact block_lt_of_cell (hcell 0 _ (gP_eq h0)).1
  obtain ⟨A, c, rfl, _⟩ := id hv
  have HLOW := hide hlow
  have HCHK := hide hchk
  clear hv hlow hchk hok
  refine (callsIn_wide (n := 6)).1 ?_
  refine callsIn_of_wp_marks Tryz.func42 rfl trivial ?_ rfl
  simp only [Tryz.ntmps42, List.size_toArray, List.length_cons, List.length_nil, Nat.reduceAdd, Nat.reduceSub, Array.replicate_succ, Array.replicate_zero, List.push_toArray, List.append_toArray, List.nil_append, List.cons_append]
  refine wpIn_wide.2 ?_
  go_wp2_with fail
  refine (Check_any _ _ L HV.out (by omega)).mono ?_
  rw [HCHK.out]
  rintro e w1 ⟨rfl, hb1⟩
  have HB1 := hide hb1
  have HV1 := hide (HV.out.below hb1)
  clear hb1
  go_wp2_with fail
  refine (edges_any _ _ _ _).mono ?_
  rintro e w2 ⟨rfl, rfl⟩
  go_wp2_with fail
  have bS := (Boxed.new w1 3 (.int .i64 0)).alloc (.cells #[.slice A L.length c] 65)
  have bV := Boxed.new (w1.alloc (.cells #[.int .i64 0] 3)) 65 (.slice A L.length c)
  simp only [World.size_alloc] at bV
  have hB0 : Below w1.heap.size w1 ((w1.alloc (.cells #[.int .i64 0] 3)).alloc (.cells #[.slice A L.length c] 65)) := allocs_below w1 [_, _]
  have hsz : ((w1.alloc (.cells #[.int .i64 0] 3)).alloc (.cells #[.slice A L.length c] 65)).heap.size = w1.heap.size + 2 := by simp
  obtain ⟨W0, hW0⟩ : ∃ W0, (w1.alloc (.cells #[.int .i64 0] 3)).alloc (.cells #[.slice A L.length c] 65) = W0 := ⟨_, rfl⟩
  rw [hW0] at bS bV hB0 hsz ⊢
  clear hW0
  have hw1 : w.heap.size ≤ w1.heap.size := HB1.out.size
  have hBw : Below w.heap.size w W0 := HB1.out.trans (hB0.mono hw1)
  refine (wpIn_wide (n := 6)).1 ?_
  refine wpIn_rangeFunc_ownH rfl (by omega) (gf := 129) (lb := #[.pointer (some ⟨w1.heap.size + 1, 0, none⟩)]) rfl trivial (enters_of Tryz.func129 (by kernel_rfl) rfl)
    (edges_stops 5 (by omega) (w1.heap.size + 1) w.heap.size (.slice A L.length c) L hr hL W0 (by omega) bV.cell (HV1.out.below hB0) HLOW.out) KpE.trans (KpE.put (by omega)) (Below.refl _ _) (fun _ => rfl)
    (fun pre W => Boxed W w1.heap.size 3 (.int .i64 (esum pre)) ∧ Below w.heap.size w W)
    (fun _ _ _ => False)
    (OwnFrom.and (Own.from (boxed_own _ _ _) _) (ownFrom_below (Nat.le_refl _) (by omega)))
    (fun _ _ _ _ _ hs _ _ => hs)
    ⟨bS, hBw⟩
    (fun x a' W => ∃ B6 B7, Blk W B6 23 #[.int .i64 x.1.1.1, .int .i64 x.1.1.2] ∧ Blk W B7 23 #[.int .i64 x.1.2.1, .int .i64 x.1.2.2] ∧ a' = { tmps := #[.slice A L.length c, undef, .int .i64 0, .int .i64 0, .int .i64 0, .pointer (some ⟨w1.heap.size, 0, none⟩), .pointer (some ⟨B6, 0, none⟩), .pointer (some ⟨B7, 0, none⟩), .slice A L.length c, .int .i64 0, .int .i64 0, .bool false, undef, .slice A L.length c, .func (.func 129) #[] #[.pointer (some ⟨w1.heap.size + 1, 0, none⟩)], ptv x.1.1.1 x.1.1.2, ptv x.1.2.1 x.1.2.2, undef, undef, undef, undef, undef, undef, undef, undef], defers := [] })
    (fun x a' _ X Y row hs hg hr => by
      obtain ⟨B6, B7, h1, h2, h3⟩ := hs
      refine ⟨B6, B7, h1.grown hg (fun e => ?_), h2.grown hg (fun e => ?_), h3⟩
      · obtain ⟨o, ho, hc⟩ := (hr B6 e.symm).2; rw [show X.heap[B6]? = _ from h1] at ho; cases ho; cases hc
      · obtain ⟨o, ho, hc⟩ := (hr B7 e.symm).2; rw [show X.heap[B7]? = _ from h2] at ho; cases ho; cases hc)
    ?assign ?body ?done ?stop
  case assign =>
    rintro l pre x W K ⟨bS1, hB1⟩ hK
    simp only [encE]
    gi_wp2
    have hA2 := allocs_below W [.cells #[.int .i64 x.1.1.1, .int .i64 x.1.1.2] 23, .cells #[.int .i64 x.1.2.1, .int .i64 x.1.2.2] 23]
    refine hK _ _ (keepsFrom_below hA2) (KpE.of_below hB1.size hA2) ⟨(bS1.alloc _).alloc _, hB1.trans (hA2.mono hB1.size)⟩ ⟨W.heap.size, W.heap.size + 1, (Blk.new W _ _).alloc _, ?_, rfl⟩
    have h := Blk.new (W.alloc (.cells #[.int .i64 x.1.1.1, .int .i64 x.1.1.2] 23)) 23 #[.int .i64 x.1.2.1, .int .i64 x.1.2.2]
    simpa using h
  case body =>
    rintro l pre ⟨⟨⟨x1, x2⟩, ⟨y1, y2⟩⟩, p1, p2, p3, p4⟩ a' W hl _ ⟨bS1, hB1⟩ ⟨B6, B7, h6, h7, rfl⟩ hlt
    simp only at p1 p2 p3 p4 h6 h7
    have HB1' := hide hB1
    have hxb := e2_bound ⟨((x1, x2), (y1, y2)), p1, p2, p3, p4⟩
    have hsb := esum_bound pre
    have hw : IntKind.i64.wrap (esum pre + (x1 * y2 - x2 * y1)) = esum pre + (x1 * y2 - x2 * y1) := by
      simp only [turn2] at hxb
      exact IntWalk.i64_in _ ⟨by omega, by omega⟩
    clear hxb hsb hB1
    have hA : Below W.heap.size W W.drew := (Below.refl _ _).drew
    have cS := bS1.cell
    have fS := bS1.frozen
    have c60 := (Blk.cell h6 0).trans rfl
    have c61 := (Blk.cell h6 1).trans rfl
    have c70 := (Blk.cell h7 0).trans rfl
    have c71 := (Blk.cell h7 1).trans rfl
    have hmx : Tryz.prog.follows .mixedOrders = true := by kernel_rfl
    have hd1 : 1 ≤ 6 - 1 - 1 := by omega
    simp only [ptv]
    gi_wp2
    gi_region_with_o (first
      | (refine ⟨trivial, ?_⟩; gi_at_call 83; refine (CallsIn.inRound l (callsIn_wide.2 (toward_any _ _ _ (by assumption) (by assumption)))).mono ?_; rintro e w' ⟨rfl, hb⟩; replace hA := hA.trans (hb.mono hA.size); replace bS1 := Boxed.kept2 bS1 hb; replace h6 := Blk.kept2 h6 hb; replace h7 := Blk.kept2 h7 hb; have cS := Boxed.cell bS1; have fS := Boxed.frozen bS1; have c60 := (Blk.cell h6 0).trans rfl; have c61 := (Blk.cell h6 1).trans rfl; have c70 := (Blk.cell h7 0).trans rfl; have c71 := (Blk.cell h7 1).trans rfl; clear hb)
      | (refine ⟨trivial, ?_⟩; gi_at_call 91; refine (CallsIn.inRound l (callsIn_wide.2 (aturn_any _ x1 x2 y1 y2 (by omega) (by omega) (by omega) (by omega)))).mono ?_; rintro e w' ⟨rfl, hb⟩; replace hA := hA.trans (hb.mono hA.size); replace bS1 := Boxed.kept2 bS1 hb; replace h6 := Blk.kept2 h6 hb; replace h7 := Blk.kept2 h7 hb; have cS := Boxed.cell bS1; have fS := Boxed.frozen bS1; have c60 := (Blk.cell h6 0).trans rfl; have c61 := (Blk.cell h6 1).trans rfl; have c70 := (Blk.cell h7 0).trans rfl; have c71 := (Blk.cell h7 1).trans rfl; clear hb))
    all_goals gi_wp2
    all_goals (try go_bits)
    all_goals exact ⟨(keepsFrom_below hA).trans ((KeepsOthers.setCell _ _ _).from _), (KpE.of_below HB1'.out.size hA).trans ⟨(Below.refl _ _).setCell (p := ⟨w1.heap.size, 0, none⟩) hw1 _, fun e => (World.cell?_of_block (Below.heap_setCell _ _ _ _ (by simp))).trans e⟩, by rw [esum_snoc]; exact bS1.set _, (HB1'.out.trans (hA.mono HB1'.out.size)).setCell (p := ⟨w1.heap.size, 0, none⟩) hw1 _⟩
  case done =>
    rintro D ys W hD rfl ⟨bS1, hB1⟩ hK
    have cS := bS1.cell
    rw [esum_upto] at cS
    go_wp2_with fail
    refine ⟨by simp, .inl ⟨_, _, rfl, run_takeDeferred hK, ?_⟩⟩
    exact ⟨_, results_tmp2 rfl _ _ _, rfl, hB1.trans (belowK_b (w := w) (Nat.le_refl _) W D _ _ (by omega) hK rfl rfl)⟩
  case stop =>
    rintro D c2 pre W _ _ h _
    exact h.elim

/-- What Area returns. -/
def areaR (L : List S2) : Value := .tuple #[.int .i64 (if chkPtsN L = 0 then areaUp L L.length else 0), .int .i64 (chkPtsN L)]
set_option maxRecDepth 100000 in
theorem Area_any (w : World) (v : Value) (L : List S2) (hv : Pts w v L) (hL : L.length ≤ 1000000000000) :
    Calls Tryz.prog 42 #[v] w fun e w' => e = .returned (areaR L) ∧ Below w.heap.size w w' := by
  have bad : ∀ n : Int, (n = 5 ∨ n = 2) → chkPtsN L = n → Calls Tryz.prog 42 #[v] w fun e w' => e = .returned (.tuple #[.int .i64 0, .int .i64 n]) ∧ Below w.heap.size w w' := by
    intro n hn hc
    have HN := hide hn
    have HC := hide hc
    clear hn hc
    go_enter Tryz.func42, Tryz.ntmps42
    go_wp2_with fail
    refine (Check_any _ _ L hv hL).mono ?_
    rw [HC.out]
    rintro e w1 ⟨rfl, hb1⟩
    have hn0 : ¬ n = 0 := by rcases HN.out with h | h <;> omega
    go_wp2_with fail
    go_ret2
    exact ⟨rfl, hb1⟩
  rcases chkPtsN_cases L with h | h | ⟨h, hl, hok⟩
  · rw [areaR, h]; exact bad 5 (.inl rfl) h
  · rw [areaR, h]; exact bad 2 (.inr rfl) h
  · rw [areaR, h]; exact area_ok w v L hv h hok hl
end Go.Proofs.YtblfinpfcpglcaaGreatDoor
