/- VectorDistances holds: ToLine and ToSegment of the program and of the reference agree for all points. -/
import Derived.Test.YtblfinpfcpglcaaGreatDoorCards
import Derived.Test.YtblfinpfcpglcaaGreatDoorTie
import Derived.Test.YtblfinpfcpglcaaGreatDoorFrame
import Derived.Test.YtblfinpfcpglcaaGreatDoorDista
import Derived.SevenTiedAt
namespace Go.Proofs.YtblfinpfcpglcaaGreatDoor
open Go.ChangeShapes Go.WideShapes Go.ChangeAt Go.RowKit Go.Joins

theorem witness_row (os : Os) {H : Type} (enc : TypeId × Value → H) :
    (OpenSpec.ofChange Rows.vectorDistancesSpec).preRow enc Tryz.prog Tryz.f3 Rows.vectorDistancesRow.domain false Rows.vectorDistancesRow.laid ((laidWorld os).forCall (fun _ _ => 0) ⟨#[], #[ptv 0 0, ptv 0 0, ptv 0 0], []⟩).memory #[ptv 0 0, ptv 0 0, ptv 0 0] := by
  have hw : (DataW.whole enc Tryz.prog ((laidWorld os).forCall (fun _ _ => 0) ⟨#[], #[ptv 0 0, ptv 0 0, ptv 0 0], []⟩).memory Tryz.f3.params.toList (OpenSpec.ofChange Rows.vectorDistancesSpec).vars false (#[ptv 0 0, ptv 0 0, ptv 0 0] : Array Value).toList 8).map (fun x => (x.1, x.2.1)) =
      some ([.agg [.lit (.int .i64 0), .lit (.int .i64 0)], .agg [.lit (.int .i64 0), .lit (.int .i64 0)], .agg [.lit (.int .i64 0), .lit (.int .i64 0)]], []) := by kernel_rfl
  obtain ⟨⟨x1, x2, x3⟩, hx, hx1⟩ := Option.map_eq_some_iff.1 hw
  simp only [Prod.mk.injEq] at hx1
  obtain ⟨rfl, rfl⟩ := hx1
  exact OpenSpec.preRow_of_cond 8 hx (by kernel_rfl) (fun k hk => by cases hk) (by kernel_rfl) (laid_met os _)

set_option maxRecDepth 100000 in
set_option maxHeartbeats 2000000 in
theorem lifted (os : Os) (started : os.Started) (H : Type) (enc : TypeId × Value → H) (F : Stop.Interp) :
    ReturnsInHanded {} Tryz.checked os 3 .any ((OpenSpec.ofChange Rows.vectorDistancesSpec).preRow enc Tryz.prog Tryz.f3 Rows.vectorDistancesRow.domain false Rows.vectorDistancesRow.laid) (((OpenSpec.ofChange Rows.vectorDistancesSpec).at F).post enc Tryz.prog Tryz.f3 false true false false) := by
  refine returnsInHanded_of_row (C := Tryz.checked) (s := OpenSpec.ofChange Rows.vectorDistancesSpec) own started (by kernel_rfl) Tryz.func3
    (witness_row_at (enc := enc) (C := Tryz.checked) false (laidWorld os) #[ptv 0 0, ptv 0 0, ptv 0 0] rfl (by kernel_rfl) (by kernel_rfl) (by kernel_rfl) (witness_row os enc)) ?_
  intro W base args ds gs before hval0 hW _ _ _ hL hsh _
  have hval : ∀ (j : Nat) t v, Tryz.f3.params[j]? = some t → args[j]? = some v → Value.okWide Tryz.prog W .any base t v := hval0
  have hW' := hW
  obtain ⟨p, q, hA0, hV0, rfl, _, _⟩ := hW
  have hA : DataW.TrodAll enc Tryz.prog W 0 (fun _ => true) true Tryz.f3.params.toList args.toList ds p := hA0
  rw [Tryz.params3] at hA hval
  obtain ⟨v0, v1, v2, d0, d1, d2, p0, p1, p2, rfl, rfl, rfl, h0, h1, h2⟩ := trodAll_three hA
  obtain ⟨rfl, rfl⟩ := trodVars_none hV0
  have h0k := h0
  obtain ⟨c0_0, c0_1, y0_0, y0_1, m0, rfl, rfl, rfl, a0_0, a0_1⟩ := open_agg2 Tryz.underlying23 (by kernel_rfl) (by kernel_rfl) (hval 0 23 v0 rfl rfl) h0
  obtain ⟨px, q0_0, rfl, w0_0⟩ := DataW.trod_int Tryz.underlying3 a0_0
  simp only [List.cons.injEq, and_true] at q0_0
  subst q0_0
  obtain ⟨py, q0_1, rfl, w0_1⟩ := DataW.trod_int Tryz.underlying3 a0_1
  simp only [List.cons.injEq, and_true] at q0_1
  subst q0_1
  have h1k := h1
  obtain ⟨c1_0, c1_1, y1_0, y1_1, m1, rfl, rfl, rfl, a1_0, a1_1⟩ := open_agg2 Tryz.underlying23 (by kernel_rfl) (by kernel_rfl) (hval 1 23 v1 rfl rfl) h1
  obtain ⟨ax, q1_0, rfl, w1_0⟩ := DataW.trod_int Tryz.underlying3 a1_0
  simp only [List.cons.injEq, and_true] at q1_0
  subst q1_0
  obtain ⟨ay, q1_1, rfl, w1_1⟩ := DataW.trod_int Tryz.underlying3 a1_1
  simp only [List.cons.injEq, and_true] at q1_1
  subst q1_1
  have h2k := h2
  obtain ⟨c2_0, c2_1, y2_0, y2_1, m2, rfl, rfl, rfl, a2_0, a2_1⟩ := open_agg2 Tryz.underlying23 (by kernel_rfl) (by kernel_rfl) (hval 2 23 v2 rfl rfl) h2
  obtain ⟨bx, q2_0, rfl, w2_0⟩ := DataW.trod_int Tryz.underlying3 a2_0
  simp only [List.cons.injEq, and_true] at q2_0
  subst q2_0
  obtain ⟨by_, q2_1, rfl, w2_1⟩ := DataW.trod_int Tryz.underlying3 a2_1
  simp only [List.cons.injEq, and_true] at q2_1
  subst q2_1
  have hlt : ∀ x ∈ ([] : List MemPlace), x.block < W.heap.size := fun x hx => by cases hx
  refine (distances_any W px py ax ay bx by_ (std_of_laid hL hsh)).mono ?_
  rintro e W' ⟨rfl, bel⟩
  refine ⟨_, rfl, _, _, _, [], [], [], hW', ?_, ?_, ?_, bel.frame _, fun h => by cases h⟩
  · exact trodAll_mk1 (shut_bool Tryz.underlying4 _)
  · exact trodAll_mk3 (Below.trod laidOut (by kernel_rfl) (of_decide_eq_true (by kernel_rfl)) h0k bel hlt) (Below.trod laidOut (by kernel_rfl) (of_decide_eq_true (by kernel_rfl)) h1k bel hlt) (Below.trod laidOut (by kernel_rfl) (of_decide_eq_true (by kernel_rfl)) h2k bel hlt)
  · rfl

theorem said : Rows.VectorDistancesSaid :=
  OpenClaim.holds_of_cond 3 Tryz.f3 rfl rfl rfl rfl rfl rfl rfl ⟨rfl, rfl, rfl, rfl, rfl⟩ rfl rfl rfl rfl rfl (by kernel_rfl) Tryz.func3 (by kernel_rfl)
    (of_decide_eq_true (by kernel_rfl)) (by unfold Func.isWrapper; rw [if_neg (of_decide_eq_false (by kernel_rfl))]; exact ⟨rfl, rfl⟩)
    (fun os started H enc _ F0 => by rw [OpenClaim.pre_eq_preRow]; exact lifted os started H enc F0)

theorem vectorDistances_holds : Rows.VectorDistancesCardSaid :=
  Claim7.holds_tied_plain_at .later [] [.data, .data, .data, .data, .sentinel, .sentinel, .pinned] true (true, "66a19b420da7a6ade5a876ec01c7be38db28fa17d6001cd5a28ec729812d2141") true
    said (fun _ h => by cases h) (by kernel_rfl) (fun _ h => by cases h) vectorDistances_row_tie rfl ⟨rfl, rfl⟩ (by kernel_rfl) rfl
    (fun f fn hf hfn => by
      obtain rfl : f = 3 := Option.some.inj ((show Tryz.prog.funcNamed "metrolab/metrolablaw07.VectorDistances" = some 3 by kernel_rfl).symm.trans hf) |>.symm
      obtain rfl : fn = Tryz.f3 := (Option.some.inj (Tryz.func3.symm.trans hfn)).symm
      exact ⟨by kernel_rfl, fun j t ht => by
        rw [Tryz.params3] at ht
        rcases j with _ | _ | _ | j
        · exact (Option.some.inj ht) ▸ (show Tryz.prog.wantsStandIn 23 = false by kernel_rfl)
        · exact (Option.some.inj ht) ▸ (show Tryz.prog.wantsStandIn 23 = false by kernel_rfl)
        · exact (Option.some.inj ht) ▸ (show Tryz.prog.wantsStandIn 23 = false by kernel_rfl)
        · simp at ht⟩)
    (by kernel_rfl)
#print axioms vectorDistances_holds
end Go.Proofs.YtblfinpfcpglcaaGreatDoor
