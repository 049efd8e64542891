/- SwitchingAdds holds: the probabilities are not negative and add up to 1; the one of a stop never falls. -/
import Derived.Test.YthmmgjieppknkaaGreatDoorRowSwitchingAddsB
import Derived.Test.YthmmgjieppknkaaGreatDoorKaw
import Derived.Test.YthmmgjieppknkaaGreatDoorKaj
import Derived.Test.YthmmgjieppknkaaGreatDoorEaaf
import Derived.SevenTiedAt
namespace Go.Proofs.YthmmgjieppknkaaGreatDoor
open Go.ChangeShapes Go.WideShapes Go.ChangeAt Go.RowKit Go.Joins MLab

theorem witness_row (os : Os) {H : Type} (enc : TypeId × Value → H) :
    (OpenSpec.ofChange Rows.switchingAddsSpec).preRow enc Tryz.prog Tryz.f7 Rows.switchingAddsRow.domain false Rows.switchingAddsRow.laid ((laidWorld os).forCall (fun _ _ => 0) ⟨#[], #[.agg #[.string ⟨#[]⟩, .string ⟨#[]⟩, .string ⟨#[]⟩], .int .u8 0], []⟩).memory #[.agg #[.string ⟨#[]⟩, .string ⟨#[]⟩, .string ⟨#[]⟩], .int .u8 0] := by
  have hw : (DataW.whole enc Tryz.prog ((laidWorld os).forCall (fun _ _ => 0) ⟨#[], #[.agg #[.string ⟨#[]⟩, .string ⟨#[]⟩, .string ⟨#[]⟩], .int .u8 0], []⟩).memory Tryz.f7.params.toList (OpenSpec.ofChange Rows.switchingAddsSpec).vars false (#[.agg #[.string ⟨#[]⟩, .string ⟨#[]⟩, .string ⟨#[]⟩], .int .u8 0] : Array Value).toList 8).map (fun x => (x.1, x.2.1)) =
      some ([.agg [.lit (.string []), .lit (.string []), .lit (.string [])], .lit (.int .u8 0)], []) := by kernel_rfl
  obtain ⟨⟨x1, x2, x3⟩, hx, hx1⟩ := Option.map_eq_some_iff.1 hw
  simp only [Prod.mk.injEq] at hx1
  obtain ⟨rfl, rfl⟩ := hx1
  exact OpenSpec.preRow_of_cond 8 hx (by kernel_rfl) (fun k hk => by cases hk) (by kernel_rfl) (laid_met os _)

set_option maxRecDepth 100000 in
set_option maxHeartbeats 2000000 in
theorem lifted (os : Os) (started : os.Started) (H : Type) (enc : TypeId × Value → H) (F : Stop.Interp) :
    ReturnsInHanded {} Tryz.checked os 7 .any ((OpenSpec.ofChange Rows.switchingAddsSpec).preRow enc Tryz.prog Tryz.f7 Rows.switchingAddsRow.domain false Rows.switchingAddsRow.laid) (((OpenSpec.ofChange Rows.switchingAddsSpec).at F).post enc Tryz.prog Tryz.f7 false true false false) := by
  refine returnsInHanded_of_row (C := Tryz.checked) (s := OpenSpec.ofChange Rows.switchingAddsSpec) own started (by kernel_rfl) Tryz.func7
    (witness_row_at (enc := enc) (C := Tryz.checked) false (laidWorld os) #[.agg #[.string ⟨#[]⟩, .string ⟨#[]⟩, .string ⟨#[]⟩], .int .u8 0] rfl (by kernel_rfl) (by kernel_rfl) (by kernel_rfl) (witness_row os enc)) ?_
  intro W base args ds gs before hval0 hW _ _ _ hL hsh _
  have hval : ∀ (j : Nat) t v, Tryz.f7.params[j]? = some t → args[j]? = some v → Value.okWide Tryz.prog W .any base t v := hval0
  have hW' := hW
  obtain ⟨p, q, hA0, hV0, rfl, _, _⟩ := hW
  have hA : DataW.TrodAll enc Tryz.prog W 0 (fun _ => true) true Tryz.f7.params.toList args.toList ds p := hA0
  rw [Tryz.params7] at hA hval
  obtain ⟨v0, v1, d0, d1, p0, p1, rfl, rfl, rfl, h0, h1⟩ := trodAll_two hA
  obtain ⟨rfl, rfl⟩ := trodVars_none hV0
  have h0k := h0
  have f0 := fits_of_Trod 5 (show leaves Tryz.prog 5 66 = some [.string, .string, .string] by kernel_rfl) h0
  generalize hc0 : v0.cells.toList = cs0 at f0
  obtain ⟨_, _, rfl, ⟨t0, rfl, w_t0⟩, f0_0⟩ := f0.inv
  obtain ⟨_, _, rfl, ⟨t1, rfl, w_t1⟩, f0_1⟩ := f0_0.inv
  obtain ⟨_, _, rfl, ⟨t2, rfl, w_t2⟩, f0_2⟩ := f0_1.inv
  obtain rfl := f0_2.done
  obtain rfl := agg_of_cells hc0
  have h1k := h1
  have f1 := fits_of_Trod 5 (show leaves Tryz.prog 5 5 = some [.int .u8] by kernel_rfl) h1
  generalize hc1 : v1.cells.toList = cs1 at f1
  obtain ⟨_, _, rfl, ⟨lots, rfl, w_lots⟩, f1_0⟩ := f1.inv
  obtain rfl := f1_0.done
  obtain rfl := one_of_cells hc1 (by intro x hx; subst hx; exact absurd (hval 1 5 _ rfl rfl) (by simp [Value.okWide, Cell.okWide, Cell.ok, Tryz.underlying5]))
  have hr_lots : 0 ≤ lots ∧ lots < 256 := by simp [Lit.wf, IntKind.min, IntKind.max, IntKind.signed, IntKind.bits] at w_lots; omega
  have hlt0 := (fun x hx => by obtain ⟨fu, hf⟩ := h0k; exact DataW.trod_lt fu _ _ _ hf x hx : ∀ x ∈ p0, x.block < W.heap.size)
  have hlt1 := (fun x hx => by obtain ⟨fu, hf⟩ := h1k; exact DataW.trod_lt fu _ _ _ hf x hx : ∀ x ∈ p1, x.block < W.heap.size)
  refine (adds55_any W t0 t1 t2 lots w_t0 w_t1 w_t2 hr_lots (std_of_laid hL hsh)).mono ?_
  rintro e W' ⟨rfl, bel⟩
  refine ⟨_, rfl, _, _, _, [], (p0 ++ p1), [], hW', ?_, ?_, ?_, bel.frame _, fun h => by cases h⟩
  · exact trodAll_mk1 (shut_bool Tryz.underlying4 _)
  · exact trodAll_mk2 (Below.trod laidOut (by kernel_rfl) (of_decide_eq_true (by kernel_rfl)) h0k bel hlt0) (Below.trod laidOut (by kernel_rfl) (of_decide_eq_true (by kernel_rfl)) h1k bel hlt1)
  · rfl

theorem said : Rows.SwitchingAddsSaid :=
  OpenClaim.holds_of_cond 7 Tryz.f7 rfl rfl rfl rfl rfl rfl rfl ⟨rfl, rfl, rfl, rfl, rfl⟩ rfl rfl rfl rfl rfl (by kernel_rfl) Tryz.func7 closed
    (of_decide_eq_true (by kernel_rfl)) (by unfold Func.isWrapper; rw [if_neg (of_decide_eq_false (by kernel_rfl))]; exact ⟨rfl, rfl⟩)
    (fun os started H enc _ F0 => by rw [OpenClaim.pre_eq_preRow]; exact lifted os started H enc F0)

end Go.Proofs.YthmmgjieppknkaaGreatDoor
