/- PlanMixes holds: the probability for a process is the mean of those of the lots that it makes. -/
import Derived.Test.YtaccdkbofhlbkaaGreatDoorCards
import Derived.Test.YtaccdkbofhlbkaaGreatDoorTie
import Derived.Test.YtaccdkbofhlbkaaGreatDoorFrameL
import Derived.Test.YtaccdkbofhlbkaaGreatDoorFlat
import Derived.Test.YtaccdkbofhlbkaaGreatDoorPlmix
import Derived.SevenTiedAt
namespace Go.Proofs.YtaccdkbofhlbkaaGreatDoor
open Go.ChangeShapes Go.WideShapes Go.ChangeAt Go.RowKit Go.Joins MLab

theorem witness_row (os : Os) {H : Type} (enc : TypeId × Value → H) :
    (OpenSpec.ofChange Rows.planMixesSpec).preRow enc Tryz.prog Tryz.f8 Rows.planMixesRow.domain false Rows.planMixesRow.laid ((laidWorld os).forCall (fun _ _ => 0) ⟨#[], #[.agg #[.int .i64 0, .int .i64 0], .int .i64 0, .int .u8 0], []⟩).memory #[.agg #[.int .i64 0, .int .i64 0], .int .i64 0, .int .u8 0] := by
  have hw : (DataW.whole enc Tryz.prog ((laidWorld os).forCall (fun _ _ => 0) ⟨#[], #[.agg #[.int .i64 0, .int .i64 0], .int .i64 0, .int .u8 0], []⟩).memory Tryz.f8.params.toList (OpenSpec.ofChange Rows.planMixesSpec).vars false (#[.agg #[.int .i64 0, .int .i64 0], .int .i64 0, .int .u8 0] : Array Value).toList 8).map (fun x => (x.1, x.2.1)) =
      some ([.agg [.lit (.int .i64 0), .lit (.int .i64 0)], .lit (.int .i64 0), .lit (.int .u8 0)], []) := by kernel_rfl
  obtain ⟨⟨x1, x2, x3⟩, hx, hx1⟩ := Option.map_eq_some_iff.1 hw
  simp only [Prod.mk.injEq] at hx1
  obtain ⟨rfl, rfl⟩ := hx1
  exact OpenSpec.preRow_of_cond 8 hx (by kernel_rfl) (fun k hk => by cases hk) (by kernel_rfl) (laid_met os _)

set_option maxRecDepth 100000 in
set_option maxHeartbeats 2000000 in
theorem lifted (os : Os) (started : os.Started) (H : Type) (enc : TypeId × Value → H) (F : Stop.Interp) :
    ReturnsInHanded {} Tryz.checked os 8 .any ((OpenSpec.ofChange Rows.planMixesSpec).preRow enc Tryz.prog Tryz.f8 Rows.planMixesRow.domain false Rows.planMixesRow.laid) (((OpenSpec.ofChange Rows.planMixesSpec).at F).post enc Tryz.prog Tryz.f8 false true false false) := by
  refine returnsInHanded_of_row (C := Tryz.checked) (s := OpenSpec.ofChange Rows.planMixesSpec) own started (by kernel_rfl) Tryz.func8
    (witness_row_at (enc := enc) (C := Tryz.checked) false (laidWorld os) #[.agg #[.int .i64 0, .int .i64 0], .int .i64 0, .int .u8 0] rfl (by kernel_rfl) (by kernel_rfl) (by kernel_rfl) (witness_row os enc)) ?_
  intro W base args ds gs before hval0 hW _ _ _ hL hsh _
  have hval : ∀ (j : Nat) t v, Tryz.f8.params[j]? = some t → args[j]? = some v → Value.okWide Tryz.prog W .any base t v := hval0
  have hW' := hW
  obtain ⟨p, q, hA0, hV0, rfl, _, _⟩ := hW
  have hA : DataW.TrodAll enc Tryz.prog W 0 (fun _ => true) true Tryz.f8.params.toList args.toList ds p := hA0
  rw [Tryz.params8] at hA hval
  obtain ⟨v0, v1, v2, d0, d1, d2, p0, p1, p2, rfl, rfl, rfl, h0, h1, h2⟩ := trodAll_three hA
  obtain ⟨rfl, rfl⟩ := trodVars_none hV0
  have h0k := h0
  have f0 := fits_of_Trod 5 (show leaves Tryz.prog 5 23 = some [.int .i64, .int .i64] by kernel_rfl) h0
  generalize hc0 : v0.cells.toList = cs0 at f0
  obtain ⟨_, _, rfl, ⟨N, rfl, w_N⟩, f0_0⟩ := f0.inv
  obtain ⟨_, _, rfl, ⟨C, rfl, w_C⟩, f0_1⟩ := f0_0.inv
  obtain rfl := f0_1.done
  obtain rfl := agg_of_cells hc0
  have h1k := h1
  have f1 := fits_of_Trod 5 (show leaves Tryz.prog 5 3 = some [.int .i64] by kernel_rfl) h1
  generalize hc1 : v1.cells.toList = cs1 at f1
  obtain ⟨_, _, rfl, ⟨lot, rfl, w_lot⟩, f1_0⟩ := f1.inv
  obtain rfl := f1_0.done
  obtain rfl := one_of_cells hc1 (by intro x hx; subst hx; exact absurd (hval 1 3 _ rfl rfl) (by simp [Value.okWide, Cell.okWide, Cell.ok, Tryz.underlying3]))
  have h2k := h2
  have f2 := fits_of_Trod 5 (show leaves Tryz.prog 5 5 = some [.int .u8] by kernel_rfl) h2
  generalize hc2 : v2.cells.toList = cs2 at f2
  obtain ⟨_, _, rfl, ⟨num, rfl, w_num⟩, f2_0⟩ := f2.inv
  obtain rfl := f2_0.done
  obtain rfl := one_of_cells hc2 (by intro x hx; subst hx; exact absurd (hval 2 5 _ rfl rfl) (by simp [Value.okWide, Cell.okWide, Cell.ok, Tryz.underlying5]))
  have hr_num : 0 ≤ num ∧ num < 256 := by simp [Lit.wf, IntKind.min, IntKind.max, IntKind.signed, IntKind.bits] at w_num; omega
  have hlt0 := (fun x hx => by obtain ⟨fu, hf⟩ := h0k; exact DataW.trod_lt fu _ _ _ hf x hx : ∀ x ∈ p0, x.block < W.heap.size)
  have hlt1 := (fun x hx => by obtain ⟨fu, hf⟩ := h1k; exact DataW.trod_lt fu _ _ _ hf x hx : ∀ x ∈ p1, x.block < W.heap.size)
  have hlt2 := (fun x hx => by obtain ⟨fu, hf⟩ := h2k; exact DataW.trod_lt fu _ _ _ hf x hx : ∀ x ∈ p2, x.block < W.heap.size)
  refine (mixes_any W N C lot num hr_num (std_of_laid hL hsh)).mono ?_
  rintro e W' ⟨rfl, bel⟩
  refine ⟨_, rfl, _, _, _, [], (p0 ++ (p1 ++ p2)), [], hW', ?_, ?_, ?_, bel.frame _, fun h => by cases h⟩
  · exact trodAll_mk1 (shut_bool Tryz.underlying4 _)
  · exact trodAll_mk3 (Below.trod laidOut (by kernel_rfl) (of_decide_eq_true (by kernel_rfl)) h0k bel hlt0) (Below.trod laidOut (by kernel_rfl) (of_decide_eq_true (by kernel_rfl)) h1k bel hlt1) (Below.trod laidOut (by kernel_rfl) (of_decide_eq_true (by kernel_rfl)) h2k bel hlt2)
  · rfl

theorem said : Rows.PlanMixesSaid :=
  OpenClaim.holds_of_cond 8 Tryz.f8 rfl rfl rfl rfl rfl rfl rfl ⟨rfl, rfl, rfl, rfl, rfl⟩ rfl rfl rfl rfl rfl (by kernel_rfl) Tryz.func8 (by kernel_rfl)
    (of_decide_eq_true (by kernel_rfl)) (by unfold Func.isWrapper; rw [if_neg (of_decide_eq_false (by kernel_rfl))]; exact ⟨rfl, rfl⟩)
    (fun os started H enc _ F0 => by rw [OpenClaim.pre_eq_preRow]; exact lifted os started H enc F0)

theorem planMixes_holds : Rows.PlanMixesCardSaid :=
  Claim7.holds_tied_plain_at .later [] [.data, .data, .data, .data, .sentinel, .sentinel, .pinned] true (true, "7d665404a96608077a4272bab32fb194c30f16ae625769886dde9a96bd71e76d") true
    said (fun _ h => by cases h) (by kernel_rfl) (fun _ h => by cases h) planMixes_row_tie rfl ⟨rfl, rfl⟩ (by kernel_rfl) rfl
    (fun f fn hf hfn => by
      obtain rfl : f = 8 := Option.some.inj ((show Tryz.prog.funcNamed "metrolab/metrolablaw54.PlanMixes" = some 8 by kernel_rfl).symm.trans hf) |>.symm
      obtain rfl : fn = Tryz.f8 := (Option.some.inj (Tryz.func8.symm.trans hfn)).symm
      exact ⟨by kernel_rfl, fun j t ht => by
        rw [Tryz.params8] at ht
        rcases j with _ | _ | _ | j
        · exact (Option.some.inj ht) ▸ (show Tryz.prog.wantsStandIn 23 = false by kernel_rfl)
        · exact (Option.some.inj ht) ▸ (show Tryz.prog.wantsStandIn 3 = false by kernel_rfl)
        · exact (Option.some.inj ht) ▸ (show Tryz.prog.wantsStandIn 5 = false by kernel_rfl)
        · simp at ht⟩)
    (by kernel_rfl)
#print axioms planMixes_holds
end Go.Proofs.YtaccdkbofhlbkaaGreatDoor
