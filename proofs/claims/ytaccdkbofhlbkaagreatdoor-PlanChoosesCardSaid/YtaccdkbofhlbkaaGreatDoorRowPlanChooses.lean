/- PlanChooses holds: Least of the program and of the reference agree for all needs about small lots. -/
import Derived.Test.YtaccdkbofhlbkaaGreatDoorCards
import Derived.Test.YtaccdkbofhlbkaaGreatDoorTie
import Derived.Test.YtaccdkbofhlbkaaGreatDoorFrameL
import Derived.Test.YtaccdkbofhlbkaaGreatDoorFlat
import Derived.Test.YtaccdkbofhlbkaaGreatDoorPlcho
import Derived.SevenTiedAt
namespace Go.Proofs.YtaccdkbofhlbkaaGreatDoor
open Go.ChangeShapes Go.WideShapes Go.ChangeAt Go.RowKit Go.Joins MLab

theorem witness_row (os : Os) {H : Type} (enc : TypeId × Value → H) :
    (OpenSpec.ofChange Rows.planChoosesSpec).preRow enc Tryz.prog Tryz.f4 Rows.planChoosesRow.domain false Rows.planChoosesRow.laid ((laidWorld os).forCall (fun _ _ => 0) ⟨#[], #[.agg #[.int .i64 0, .int .i64 0, .int .i64 0, .string ⟨#[]⟩, .string ⟨#[]⟩]], []⟩).memory #[.agg #[.int .i64 0, .int .i64 0, .int .i64 0, .string ⟨#[]⟩, .string ⟨#[]⟩]] := by
  have hw : (DataW.whole enc Tryz.prog ((laidWorld os).forCall (fun _ _ => 0) ⟨#[], #[.agg #[.int .i64 0, .int .i64 0, .int .i64 0, .string ⟨#[]⟩, .string ⟨#[]⟩]], []⟩).memory Tryz.f4.params.toList (OpenSpec.ofChange Rows.planChoosesSpec).vars false (#[.agg #[.int .i64 0, .int .i64 0, .int .i64 0, .string ⟨#[]⟩, .string ⟨#[]⟩]] : Array Value).toList 8).map (fun x => (x.1, x.2.1)) =
      some ([.agg [.lit (.int .i64 0), .lit (.int .i64 0), .lit (.int .i64 0), .lit (.string []), .lit (.string [])]], []) := by kernel_rfl
  obtain ⟨⟨x1, x2, x3⟩, hx, hx1⟩ := Option.map_eq_some_iff.1 hw
  simp only [Prod.mk.injEq] at hx1
  obtain ⟨rfl, rfl⟩ := hx1
  exact OpenSpec.preRow_of_cond 8 hx (by kernel_rfl) (fun k hk => by cases hk) (by kernel_rfl) (laid_met os _)

set_option maxRecDepth 100000 in
set_option maxHeartbeats 2000000 in
theorem lifted (os : Os) (started : os.Started) (H : Type) (enc : TypeId × Value → H) (F : Stop.Interp) :
    ReturnsInHanded {} Tryz.checked os 4 .any ((OpenSpec.ofChange Rows.planChoosesSpec).preRow enc Tryz.prog Tryz.f4 Rows.planChoosesRow.domain false Rows.planChoosesRow.laid) (((OpenSpec.ofChange Rows.planChoosesSpec).at F).post enc Tryz.prog Tryz.f4 false true false false) := by
  refine returnsInHanded_of_row (C := Tryz.checked) (s := OpenSpec.ofChange Rows.planChoosesSpec) own started (by kernel_rfl) Tryz.func4
    (witness_row_at (enc := enc) (C := Tryz.checked) false (laidWorld os) #[.agg #[.int .i64 0, .int .i64 0, .int .i64 0, .string ⟨#[]⟩, .string ⟨#[]⟩]] rfl (by kernel_rfl) (by kernel_rfl) (by kernel_rfl) (witness_row os enc)) ?_
  intro W base args ds gs before hval0 hW _ _ _ hL hsh _
  have hval : ∀ (j : Nat) t v, Tryz.f4.params[j]? = some t → args[j]? = some v → Value.okWide Tryz.prog W .any base t v := hval0
  have hW' := hW
  obtain ⟨p, q, hA0, hV0, rfl, _, _⟩ := hW
  have hA : DataW.TrodAll enc Tryz.prog W 0 (fun _ => true) true Tryz.f4.params.toList args.toList ds p := hA0
  rw [Tryz.params4] at hA hval
  obtain ⟨v0, d0, rfl, rfl, h0⟩ := trodAll_one hA
  obtain ⟨rfl, rfl⟩ := trodVars_none hV0
  have h0k := h0
  have f0 := fits_of_Trod 5 (show leaves Tryz.prog 5 38 = some [.int .i64, .int .i64, .int .i64, .string, .string] by kernel_rfl) h0
  generalize hc0 : v0.cells.toList = cs0 at f0
  obtain ⟨_, _, rfl, ⟨lot, rfl, w_lot⟩, f0_0⟩ := f0.inv
  obtain ⟨_, _, rfl, ⟨good, rfl, w_good⟩, f0_1⟩ := f0_0.inv
  obtain ⟨_, _, rfl, ⟨bad, rfl, w_bad⟩, f0_2⟩ := f0_1.inv
  obtain ⟨_, _, rfl, ⟨a, rfl, w_a⟩, f0_3⟩ := f0_2.inv
  obtain ⟨_, _, rfl, ⟨b, rfl, w_b⟩, f0_4⟩ := f0_3.inv
  obtain rfl := f0_4.done
  obtain rfl := agg_of_cells hc0
  have hlt0 := (fun x hx => by obtain ⟨fu, hf⟩ := h0k; exact DataW.trod_lt fu _ _ _ hf x hx : ∀ x ∈ p, x.block < W.heap.size)
  refine (chooses_any W lot good bad a b w_a w_b (std_of_laid hL hsh)).mono ?_
  rintro e W' ⟨rfl, bel⟩
  refine ⟨_, rfl, _, _, _, [], p, [], hW', ?_, ?_, ?_, bel.frame _, fun h => by cases h⟩
  · exact trodAll_mk1 (shut_bool Tryz.underlying4 _)
  · exact trodAll_mk1 (Below.trod laidOut (by kernel_rfl) (of_decide_eq_true (by kernel_rfl)) h0k bel hlt0)
  · rfl

theorem said : Rows.PlanChoosesSaid :=
  OpenClaim.holds_of_cond 4 Tryz.f4 rfl rfl rfl rfl rfl rfl rfl ⟨rfl, rfl, rfl, rfl, rfl⟩ rfl rfl rfl rfl rfl (by kernel_rfl) Tryz.func4 (by kernel_rfl)
    (of_decide_eq_true (by kernel_rfl)) (by unfold Func.isWrapper; rw [if_neg (of_decide_eq_false (by kernel_rfl))]; exact ⟨rfl, rfl⟩)
    (fun os started H enc _ F0 => by rw [OpenClaim.pre_eq_preRow]; exact lifted os started H enc F0)

theorem planChooses_holds : Rows.PlanChoosesCardSaid :=
  Claim7.holds_tied_plain_at .later [] [.data, .data, .data, .data, .sentinel, .sentinel, .pinned] true (true, "7d665404a96608077a4272bab32fb194c30f16ae625769886dde9a96bd71e76d") true
    said (fun _ h => by cases h) (by kernel_rfl) (fun _ h => by cases h) planChooses_row_tie rfl ⟨rfl, rfl⟩ (by kernel_rfl) rfl
    (fun f fn hf hfn => by
      obtain rfl : f = 4 := Option.some.inj ((show Tryz.prog.funcNamed "metrolab/metrolablaw54.PlanChooses" = some 4 by kernel_rfl).symm.trans hf) |>.symm
      obtain rfl : fn = Tryz.f4 := (Option.some.inj (Tryz.func4.symm.trans hfn)).symm
      exact ⟨by kernel_rfl, fun j t ht => by
        rw [Tryz.params4] at ht
        rcases j with _ | j
        · exact (Option.some.inj ht) ▸ (show Tryz.prog.wantsStandIn 38 = false by kernel_rfl)
        · simp at ht⟩)
    (by kernel_rfl)
#print axioms planChooses_holds
end Go.Proofs.YtaccdkbofhlbkaaGreatDoor
