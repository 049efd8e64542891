/- TorsorAdds holds: Add and Scale of the program and of the reference agree for all torsors and numbers. -/
import Derived.Test.YtdkilkliccljeaaGreatDoorCards
import Derived.Test.YtdkilkliccljeaaGreatDoorTie
import Derived.Test.YtdkilkliccljeaaGreatDoorFrameT
import Derived.Test.YtdkilkliccljeaaGreatDoorFlat
import Derived.Test.YtdkilkliccljeaaGreatDoorTadds
import Derived.SevenTiedAt
namespace Go.Proofs.YtdkilkliccljeaaGreatDoor
open Go.ChangeShapes Go.WideShapes Go.ChangeAt Go.RowKit Go.Joins MLab

theorem witness_row (os : Os) {H : Type} (enc : TypeId × Value → H) :
    (OpenSpec.ofChange Rows.torsorAddsSpec).preRow enc Tryz.prog Tryz.f7 Rows.torsorAddsRow.domain false Rows.torsorAddsRow.laid ((laidWorld os).forCall (fun _ _ => 0) ⟨#[], #[.agg #[.string ⟨#[]⟩, .string ⟨#[]⟩, .string ⟨#[]⟩, .string ⟨#[]⟩, .string ⟨#[]⟩, .string ⟨#[]⟩], .agg #[.string ⟨#[]⟩, .string ⟨#[]⟩, .string ⟨#[]⟩, .string ⟨#[]⟩, .string ⟨#[]⟩, .string ⟨#[]⟩], .string ⟨#[]⟩], []⟩).memory #[.agg #[.string ⟨#[]⟩, .string ⟨#[]⟩, .string ⟨#[]⟩, .string ⟨#[]⟩, .string ⟨#[]⟩, .string ⟨#[]⟩], .agg #[.string ⟨#[]⟩, .string ⟨#[]⟩, .string ⟨#[]⟩, .string ⟨#[]⟩, .string ⟨#[]⟩, .string ⟨#[]⟩], .string ⟨#[]⟩] := by
  have hw : (DataW.whole enc Tryz.prog ((laidWorld os).forCall (fun _ _ => 0) ⟨#[], #[.agg #[.string ⟨#[]⟩, .string ⟨#[]⟩, .string ⟨#[]⟩, .string ⟨#[]⟩, .string ⟨#[]⟩, .string ⟨#[]⟩], .agg #[.string ⟨#[]⟩, .string ⟨#[]⟩, .string ⟨#[]⟩, .string ⟨#[]⟩, .string ⟨#[]⟩, .string ⟨#[]⟩], .string ⟨#[]⟩], []⟩).memory Tryz.f7.params.toList (OpenSpec.ofChange Rows.torsorAddsSpec).vars false (#[.agg #[.string ⟨#[]⟩, .string ⟨#[]⟩, .string ⟨#[]⟩, .string ⟨#[]⟩, .string ⟨#[]⟩, .string ⟨#[]⟩], .agg #[.string ⟨#[]⟩, .string ⟨#[]⟩, .string ⟨#[]⟩, .string ⟨#[]⟩, .string ⟨#[]⟩, .string ⟨#[]⟩], .string ⟨#[]⟩] : Array Value).toList 8).map (fun x => (x.1, x.2.1)) =
      some ([.agg [.agg [.lit (.string []), .lit (.string []), .lit (.string [])], .agg [.lit (.string []), .lit (.string []), .lit (.string [])]], .agg [.agg [.lit (.string []), .lit (.string []), .lit (.string [])], .agg [.lit (.string []), .lit (.string []), .lit (.string [])]], .lit (.string [])], []) := by kernel_rfl
  obtain ⟨⟨x1, x2, x3⟩, hx, hx1⟩ := Option.map_eq_some_iff.1 hw
  simp only [Prod.mk.injEq] at hx1
  obtain ⟨rfl, rfl⟩ := hx1
  exact OpenSpec.preRow_of_cond 8 hx (by kernel_rfl) (fun k hk => by cases hk) (by kernel_rfl) (laid_met os _)

set_option maxRecDepth 100000 in
set_option maxHeartbeats 2000000 in
theorem lifted (os : Os) (started : os.Started) (H : Type) (enc : TypeId × Value → H) (F : Stop.Interp) :
    ReturnsInHanded {} Tryz.checked os 7 .any ((OpenSpec.ofChange Rows.torsorAddsSpec).preRow enc Tryz.prog Tryz.f7 Rows.torsorAddsRow.domain false Rows.torsorAddsRow.laid) (((OpenSpec.ofChange Rows.torsorAddsSpec).at F).post enc Tryz.prog Tryz.f7 false true false false) := by
  refine returnsInHanded_of_row (C := Tryz.checked) (s := OpenSpec.ofChange Rows.torsorAddsSpec) own started (by kernel_rfl) Tryz.func7
    (witness_row_at (enc := enc) (C := Tryz.checked) false (laidWorld os) #[.agg #[.string ⟨#[]⟩, .string ⟨#[]⟩, .string ⟨#[]⟩, .string ⟨#[]⟩, .string ⟨#[]⟩, .string ⟨#[]⟩], .agg #[.string ⟨#[]⟩, .string ⟨#[]⟩, .string ⟨#[]⟩, .string ⟨#[]⟩, .string ⟨#[]⟩, .string ⟨#[]⟩], .string ⟨#[]⟩] rfl (by kernel_rfl) (by kernel_rfl) (by kernel_rfl) (witness_row os enc)) ?_
  intro W base args ds gs before hval0 hW _ _ _ hL hsh _
  have hval : ∀ (j : Nat) t v, Tryz.f7.params[j]? = some t → args[j]? = some v → Value.okWide Tryz.prog W .any base t v := hval0
  have hW' := hW
  obtain ⟨p, q, hA0, hV0, rfl, _, _⟩ := hW
  have hA : DataW.TrodAll enc Tryz.prog W 0 (fun _ => true) true Tryz.f7.params.toList args.toList ds p := hA0
  rw [Tryz.params7] at hA hval
  obtain ⟨v0, v1, v2, d0, d1, d2, p0, p1, p2, rfl, rfl, rfl, h0, h1, h2⟩ := trodAll_three hA
  obtain ⟨rfl, rfl⟩ := trodVars_none hV0
  have h0k := h0
  have f0 := fits_of_Trod 5 (show leaves Tryz.prog 5 25 = some [.string, .string, .string, .string, .string, .string] by kernel_rfl) h0
  generalize hc0 : v0.cells.toList = cs0 at f0
  obtain ⟨_, _, rfl, ⟨s0, rfl, w_s0⟩, f0_0⟩ := f0.inv
  obtain ⟨_, _, rfl, ⟨s1, rfl, w_s1⟩, f0_1⟩ := f0_0.inv
  obtain ⟨_, _, rfl, ⟨s2, rfl, w_s2⟩, f0_2⟩ := f0_1.inv
  obtain ⟨_, _, rfl, ⟨s3, rfl, w_s3⟩, f0_3⟩ := f0_2.inv
  obtain ⟨_, _, rfl, ⟨s4, rfl, w_s4⟩, f0_4⟩ := f0_3.inv
  obtain ⟨_, _, rfl, ⟨s5, rfl, w_s5⟩, f0_5⟩ := f0_4.inv
  obtain rfl := f0_5.done
  obtain rfl := agg_of_cells hc0
  have h1k := h1
  have f1 := fits_of_Trod 5 (show leaves Tryz.prog 5 25 = some [.string, .string, .string, .string, .string, .string] by kernel_rfl) h1
  generalize hc1 : v1.cells.toList = cs1 at f1
  obtain ⟨_, _, rfl, ⟨t0, rfl, w_t0⟩, f1_0⟩ := f1.inv
  obtain ⟨_, _, rfl, ⟨t1, rfl, w_t1⟩, f1_1⟩ := f1_0.inv
  obtain ⟨_, _, rfl, ⟨t2, rfl, w_t2⟩, f1_2⟩ := f1_1.inv
  obtain ⟨_, _, rfl, ⟨t3, rfl, w_t3⟩, f1_3⟩ := f1_2.inv
  obtain ⟨_, _, rfl, ⟨t4, rfl, w_t4⟩, f1_4⟩ := f1_3.inv
  obtain ⟨_, _, rfl, ⟨t5, rfl, w_t5⟩, f1_5⟩ := f1_4.inv
  obtain rfl := f1_5.done
  obtain rfl := agg_of_cells hc1
  have h2k := h2
  have f2 := fits_of_Trod 5 (show leaves Tryz.prog 5 22 = some [.string] by kernel_rfl) h2
  generalize hc2 : v2.cells.toList = cs2 at f2
  obtain ⟨_, _, rfl, ⟨k, rfl, w_k⟩, f2_0⟩ := f2.inv
  obtain rfl := f2_0.done
  obtain rfl := one_of_cells hc2 (by intro x hx; subst hx; exact absurd (hval 2 22 _ rfl rfl) (by simp [Value.okWide, Cell.okWide, Cell.ok, Tryz.underlying22]))
  have hlt0 := (fun x hx => by obtain ⟨fu, hf⟩ := h0k; exact DataW.trod_lt fu _ _ _ hf x hx : ∀ x ∈ p0, x.block < W.heap.size)
  have hlt1 := (fun x hx => by obtain ⟨fu, hf⟩ := h1k; exact DataW.trod_lt fu _ _ _ hf x hx : ∀ x ∈ p1, x.block < W.heap.size)
  have hlt2 := (fun x hx => by obtain ⟨fu, hf⟩ := h2k; exact DataW.trod_lt fu _ _ _ hf x hx : ∀ x ∈ p2, x.block < W.heap.size)
  refine (adds_any W s0 s1 s2 s3 s4 s5 t0 t1 t2 t3 t4 t5 k w_k (std_of_laid hL hsh)).mono ?_
  rintro e W' ⟨rfl, bel⟩
  refine ⟨_, rfl, _, _, _, [], (p0 ++ (p1 ++ p2)), [], hW', ?_, ?_, ?_, bel.frame _, fun h => by cases h⟩
  · exact trodAll_mk1 (shut_bool Tryz.underlying4 _)
  · exact trodAll_mk3 (Below.trod laidOut (by kernel_rfl) (of_decide_eq_true (by kernel_rfl)) h0k bel hlt0) (Below.trod laidOut (by kernel_rfl) (of_decide_eq_true (by kernel_rfl)) h1k bel hlt1) (Below.trod laidOut (by kernel_rfl) (of_decide_eq_true (by kernel_rfl)) h2k bel hlt2)
  · rfl

theorem said : Rows.TorsorAddsSaid :=
  OpenClaim.holds_of_cond 7 Tryz.f7 rfl rfl rfl rfl rfl rfl rfl ⟨rfl, rfl, rfl, rfl, rfl⟩ rfl rfl rfl rfl rfl (by kernel_rfl) Tryz.func7 (by kernel_rfl)
    (of_decide_eq_true (by kernel_rfl)) (by unfold Func.isWrapper; rw [if_neg (of_decide_eq_false (by kernel_rfl))]; exact ⟨rfl, rfl⟩)
    (fun os started H enc _ F0 => by rw [OpenClaim.pre_eq_preRow]; exact lifted os started H enc F0)

theorem torsorAdds_holds : Rows.TorsorAddsCardSaid :=
  Claim7.holds_tied_plain_at .later [] [.data, .data, .data, .data, .sentinel, .sentinel, .pinned] true (true, "eca86bd2130f66b8a585c3dbeb73e7f1c73c58b8ec01380e04825a8d16a1b3fd") true
    said (fun _ h => by cases h) (by kernel_rfl) (fun _ h => by cases h) torsorAdds_row_tie rfl ⟨rfl, rfl⟩ (by kernel_rfl) rfl
    (fun f fn hf hfn => by
      obtain rfl : f = 7 := Option.some.inj ((show Tryz.prog.funcNamed "metrolab/metrolablaw40.TorsorAdds" = some 7 by kernel_rfl).symm.trans hf) |>.symm
      obtain rfl : fn = Tryz.f7 := (Option.some.inj (Tryz.func7.symm.trans hfn)).symm
      exact ⟨by kernel_rfl, fun j t ht => by
        rw [Tryz.params7] at ht
        rcases j with _ | _ | _ | j
        · exact (Option.some.inj ht) ▸ (show Tryz.prog.wantsStandIn 25 = false by kernel_rfl)
        · exact (Option.some.inj ht) ▸ (show Tryz.prog.wantsStandIn 25 = false by kernel_rfl)
        · exact (Option.some.inj ht) ▸ (show Tryz.prog.wantsStandIn 22 = false by kernel_rfl)
        · simp at ht⟩)
    (by kernel_rfl)
#print axioms torsorAdds_holds
end Go.Proofs.YtdkilkliccljeaaGreatDoor
