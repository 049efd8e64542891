/- VectorTurns holds: the cross product does not change when the points are moved, or turned in their order, and changes its sign when two are exchanged. -/
import Derived.Test.YtblfinpfcpglcaaGreatDoorCards
import Derived.Test.YtblfinpfcpglcaaGreatDoorTie
import Derived.Test.YtblfinpfcpglcaaGreatDoorFrame
import Derived.Test.YtblfinpfcpglcaaGreatDoorFlat
import Derived.Test.YtblfinpfcpglcaaGreatDoorTurnsAny
import Derived.SevenTiedAt
namespace Go.Proofs.YtblfinpfcpglcaaGreatDoor
open Go.ChangeShapes Go.WideShapes Go.ChangeAt Go.RowKit Go.Joins MLab

theorem witness_row (os : Os) {H : Type} (enc : TypeId × Value → H) :
    (OpenSpec.ofChange Rows.vectorTurnsSpec).preRow enc Tryz.prog Tryz.f9 Rows.vectorTurnsRow.domain false Rows.vectorTurnsRow.laid ((laidWorld os).forCall (fun _ _ => 0) ⟨#[], #[.agg #[.int .i64 0, .int .i64 0, .int .i64 0, .int .i64 0, .int .i64 0, .int .i64 0], .agg #[.int .i64 0, .int .i64 0]], []⟩).memory #[.agg #[.int .i64 0, .int .i64 0, .int .i64 0, .int .i64 0, .int .i64 0, .int .i64 0], .agg #[.int .i64 0, .int .i64 0]] := by
  have hw : (DataW.whole enc Tryz.prog ((laidWorld os).forCall (fun _ _ => 0) ⟨#[], #[.agg #[.int .i64 0, .int .i64 0, .int .i64 0, .int .i64 0, .int .i64 0, .int .i64 0], .agg #[.int .i64 0, .int .i64 0]], []⟩).memory Tryz.f9.params.toList (OpenSpec.ofChange Rows.vectorTurnsSpec).vars false (#[.agg #[.int .i64 0, .int .i64 0, .int .i64 0, .int .i64 0, .int .i64 0, .int .i64 0], .agg #[.int .i64 0, .int .i64 0]] : Array Value).toList 8).map (fun x => (x.1, x.2.1)) =
      some ([.agg [.agg [.lit (.int .i64 0), .lit (.int .i64 0)], .agg [.lit (.int .i64 0), .lit (.int .i64 0)], .agg [.lit (.int .i64 0), .lit (.int .i64 0)]], .agg [.lit (.int .i64 0), .lit (.int .i64 0)]], []) := by kernel_rfl
  obtain ⟨⟨x1, x2, x3⟩, hx, hx1⟩ := Option.map_eq_some_iff.1 hw
  simp only [Prod.mk.injEq] at hx1
  obtain ⟨rfl, rfl⟩ := hx1
  exact OpenSpec.preRow_of_cond 8 hx (by kernel_rfl) (fun k hk => by cases hk) (by kernel_rfl) (laid_met os _)

set_option maxRecDepth 100000 in
set_option maxHeartbeats 2000000 in
theorem lifted (os : Os) (started : os.Started) (H : Type) (enc : TypeId × Value → H) (F : Stop.Interp) :
    ReturnsInHanded {} Tryz.checked os 9 .any ((OpenSpec.ofChange Rows.vectorTurnsSpec).preRow enc Tryz.prog Tryz.f9 Rows.vectorTurnsRow.domain false Rows.vectorTurnsRow.laid) (((OpenSpec.ofChange Rows.vectorTurnsSpec).at F).post enc Tryz.prog Tryz.f9 false true false false) := by
  refine returnsInHanded_of_row (C := Tryz.checked) (s := OpenSpec.ofChange Rows.vectorTurnsSpec) own started (by kernel_rfl) Tryz.func9
    (witness_row_at (enc := enc) (C := Tryz.checked) false (laidWorld os) #[.agg #[.int .i64 0, .int .i64 0, .int .i64 0, .int .i64 0, .int .i64 0, .int .i64 0], .agg #[.int .i64 0, .int .i64 0]] rfl (by kernel_rfl) (by kernel_rfl) (by kernel_rfl) (witness_row os enc)) ?_
  intro W base args ds gs before hval0 hW _ _ _ hL hsh _
  have hval : ∀ (j : Nat) t v, Tryz.f9.params[j]? = some t → args[j]? = some v → Value.okWide Tryz.prog W .any base t v := hval0
  have hW' := hW
  obtain ⟨p, q, hA0, hV0, rfl, _, _⟩ := hW
  have hA : DataW.TrodAll enc Tryz.prog W 0 (fun _ => true) true Tryz.f9.params.toList args.toList ds p := hA0
  rw [Tryz.params9] at hA hval
  obtain ⟨v0, v1, d0, d1, p0, p1, rfl, rfl, rfl, h0, h1⟩ := trodAll_two hA
  obtain ⟨rfl, rfl⟩ := trodVars_none hV0
  have h0k := h0
  have f0 := fits_of_Trod 5 (show leaves Tryz.prog 5 68 = some [.int .i64, .int .i64, .int .i64, .int .i64, .int .i64, .int .i64] by kernel_rfl) h0
  generalize hc0 : v0.cells.toList = cs0 at f0
  obtain ⟨_, _, rfl, ⟨ax, rfl, w_ax⟩, f0_0⟩ := f0.inv
  obtain ⟨_, _, rfl, ⟨ay, rfl, w_ay⟩, f0_1⟩ := f0_0.inv
  obtain ⟨_, _, rfl, ⟨bx, rfl, w_bx⟩, f0_2⟩ := f0_1.inv
  obtain ⟨_, _, rfl, ⟨by_, rfl, w_by_⟩, f0_3⟩ := f0_2.inv
  obtain ⟨_, _, rfl, ⟨cx, rfl, w_cx⟩, f0_4⟩ := f0_3.inv
  obtain ⟨_, _, rfl, ⟨cy, rfl, w_cy⟩, f0_5⟩ := f0_4.inv
  obtain rfl := f0_5.done
  obtain rfl := agg_of_cells hc0
  have h1k := h1
  have f1 := fits_of_Trod 5 (show leaves Tryz.prog 5 23 = some [.int .i64, .int .i64] by kernel_rfl) h1
  generalize hc1 : v1.cells.toList = cs1 at f1
  obtain ⟨_, _, rfl, ⟨ux, rfl, w_ux⟩, f1_0⟩ := f1.inv
  obtain ⟨_, _, rfl, ⟨uy, rfl, w_uy⟩, f1_1⟩ := f1_0.inv
  obtain rfl := f1_1.done
  obtain rfl := agg_of_cells hc1
  have hlt0 := (fun x hx => by obtain ⟨fu, hf⟩ := h0k; exact DataW.trod_lt fu _ _ _ hf x hx : ∀ x ∈ p0, x.block < W.heap.size)
  have hlt1 := (fun x hx => by obtain ⟨fu, hf⟩ := h1k; exact DataW.trod_lt fu _ _ _ hf x hx : ∀ x ∈ p1, x.block < W.heap.size)
  refine (turns_any W ax ay bx by_ cx cy ux uy (std_of_laid hL hsh)).mono ?_
  rintro e W' ⟨rfl, bel⟩
  refine ⟨_, rfl, _, _, _, [], (p0 ++ p1), [], hW', ?_, ?_, ?_, bel.frame _, fun h => by cases h⟩
  · exact trodAll_mk1 (shut_bool Tryz.underlying4 _)
  · exact trodAll_mk2 (Below.trod laidOut (by kernel_rfl) (of_decide_eq_true (by kernel_rfl)) h0k bel hlt0) (Below.trod laidOut (by kernel_rfl) (of_decide_eq_true (by kernel_rfl)) h1k bel hlt1)
  · rfl

theorem said : Rows.VectorTurnsSaid :=
  OpenClaim.holds_of_cond 9 Tryz.f9 rfl rfl rfl rfl rfl rfl rfl ⟨rfl, rfl, rfl, rfl, rfl⟩ rfl rfl rfl rfl rfl (by kernel_rfl) Tryz.func9 (by kernel_rfl)
    (of_decide_eq_true (by kernel_rfl)) (by unfold Func.isWrapper; rw [if_neg (of_decide_eq_false (by kernel_rfl))]; exact ⟨rfl, rfl⟩)
    (fun os started H enc _ F0 => by rw [OpenClaim.pre_eq_preRow]; exact lifted os started H enc F0)

theorem vectorTurns_holds : Rows.VectorTurnsCardSaid :=
  Claim7.holds_tied_plain_at .later [] [.data, .data, .data, .data, .sentinel, .sentinel, .pinned] true (true, "66a19b420da7a6ade5a876ec01c7be38db28fa17d6001cd5a28ec729812d2141") true
    said (fun _ h => by cases h) (by kernel_rfl) (fun _ h => by cases h) vectorTurns_row_tie rfl ⟨rfl, rfl⟩ (by kernel_rfl) rfl
    (fun f fn hf hfn => by
      obtain rfl : f = 9 := Option.some.inj ((show Tryz.prog.funcNamed "metrolab/metrolablaw07.VectorTurns" = some 9 by kernel_rfl).symm.trans hf) |>.symm
      obtain rfl : fn = Tryz.f9 := (Option.some.inj (Tryz.func9.symm.trans hfn)).symm
      exact ⟨by kernel_rfl, fun j t ht => by
        rw [Tryz.params9] at ht
        rcases j with _ | _ | j
        · exact (Option.some.inj ht) ▸ (show Tryz.prog.wantsStandIn 68 = false by kernel_rfl)
        · exact (Option.some.inj ht) ▸ (show Tryz.prog.wantsStandIn 23 = false by kernel_rfl)
        · simp at ht⟩)
    (by kernel_rfl)
#print axioms vectorTurns_holds
end Go.Proofs.YtblfinpfcpglcaaGreatDoor
