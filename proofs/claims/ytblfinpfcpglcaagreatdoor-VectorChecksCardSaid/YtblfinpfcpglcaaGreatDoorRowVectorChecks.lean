/- VectorChecks holds: Check, Area, Collinear and Order return the specified results, or the specified errors, for all lists of points. -/
import Derived.Test.YtblfinpfcpglcaaGreatDoorCards
import Derived.Test.YtblfinpfcpglcaaGreatDoorTie
import Derived.Test.YtblfinpfcpglcaaGreatDoorFrame
import Derived.Test.YtblfinpfcpglcaaGreatDoorFlat
import Derived.Test.YtblfinpfcpglcaaGreatDoorChecks
import Derived.Test.YtblfinpfcpglcaaGreatDoorSlice
import Derived.SevenTiedAt
namespace Go.Proofs.YtblfinpfcpglcaaGreatDoor
open Go.ChangeShapes Go.WideShapes Go.ChangeAt Go.RowKit Go.Joins MLab

theorem witness_row (os : Os) {H : Type} (enc : TypeId × Value → H) :
    (OpenSpec.ofChange Rows.vectorChecksSpec).preRow enc Tryz.prog Tryz.f11 Rows.vectorChecksRow.domain false Rows.vectorChecksRow.laid ((laidWorld os).forCall (fun _ _ => 0) ⟨#[], #[.slice none 0 0], []⟩).memory #[.slice none 0 0] := by
  have hw : (DataW.whole enc Tryz.prog ((laidWorld os).forCall (fun _ _ => 0) ⟨#[], #[.slice none 0 0], []⟩).memory Tryz.f11.params.toList (OpenSpec.ofChange Rows.vectorChecksSpec).vars false (#[.slice none 0 0] : Array Value).toList 8).map (fun x => (x.1, x.2.1)) =
      some ([.nil], []) := by kernel_rfl
  obtain ⟨⟨x1, x2, x3⟩, hx, hx1⟩ := Option.map_eq_some_iff.1 hw
  simp only [Prod.mk.injEq] at hx1
  obtain ⟨rfl, rfl⟩ := hx1
  exact OpenSpec.preRow_of_cond 8 hx (by kernel_rfl) (fun k hk => by cases hk) (by kernel_rfl) (laid_met os _)

set_option maxRecDepth 100000 in
set_option maxHeartbeats 2000000 in
theorem lifted (os : Os) (started : os.Started) (H : Type) (enc : TypeId × Value → H) (F : Stop.Interp) :
    ReturnsInHanded {} Tryz.checked os 11 .any ((OpenSpec.ofChange Rows.vectorChecksSpec).preRow enc Tryz.prog Tryz.f11 Rows.vectorChecksRow.domain false Rows.vectorChecksRow.laid) (((OpenSpec.ofChange Rows.vectorChecksSpec).at F).post enc Tryz.prog Tryz.f11 false true false false) := by
  refine returnsInHanded_of_row (C := Tryz.checked) (s := OpenSpec.ofChange Rows.vectorChecksSpec) own started (by kernel_rfl) Tryz.func11
    (witness_row_at (enc := enc) (C := Tryz.checked) false (laidWorld os) #[.slice none 0 0] rfl (by kernel_rfl) (by kernel_rfl) (by kernel_rfl) (witness_row os enc)) ?_
  intro W base args ds gs before hval0 hW _ _ _ hL hsh _
  have hval : ∀ (j : Nat) t v, Tryz.f11.params[j]? = some t → args[j]? = some v → Value.okWide Tryz.prog W .any base t v := hval0
  have hW' := hW
  obtain ⟨p, q, hA0, hV0, rfl, _, _⟩ := hW
  have hA : DataW.TrodAll enc Tryz.prog W 0 (fun _ => true) true Tryz.f11.params.toList args.toList ds p := hA0
  rw [Tryz.params11] at hA hval
  obtain ⟨v0, d0, rfl, rfl, h0⟩ := trodAll_one hA
  obtain ⟨rfl, rfl⟩ := trodVars_none hV0
  have h0k := h0
  obtain ⟨A0, n0, c0, hv0, _, _, _, hcell0⟩ := slice_of_Trod 5 (ls := [.int .i64, .int .i64]) Tryz.underlying65 (by kernel_rfl) (by decide) (by kernel_rfl) (by intro x hx; subst hx; exact absurd (hval 0 65 _ rfl rfl) (by simp [Value.okWide, Cell.okWide, Cell.ok, Tryz.underlying65])) h0
  obtain ⟨L0, hL0⟩ := pts_of hv0 hcell0
  have hlt0 := (fun x hx => by obtain ⟨fu, hf⟩ := h0k; exact DataW.trod_lt fu _ _ _ hf x hx : ∀ x ∈ p, x.block < W.heap.size)
  refine (checks_any W v0 L0 hL0 (std_of_laid hL hsh)).mono ?_
  rintro e W' ⟨rfl, bel⟩
  refine ⟨_, rfl, _, _, _, [], p, [], hW', ?_, ?_, ?_, bel.frame _, fun h => by cases h⟩
  · exact trodAll_mk1 (shut_bool Tryz.underlying4 _)
  · exact trodAll_mk1 (Below.trod laidOut (by kernel_rfl) (of_decide_eq_true (by kernel_rfl)) h0k bel hlt0)
  · rfl

theorem said : Rows.VectorChecksSaid :=
  OpenClaim.holds_of_cond 11 Tryz.f11 rfl rfl rfl rfl rfl rfl rfl ⟨rfl, rfl, rfl, rfl, rfl⟩ rfl rfl rfl rfl rfl (by kernel_rfl) Tryz.func11 (by kernel_rfl)
    (of_decide_eq_true (by kernel_rfl)) (by unfold Func.isWrapper; rw [if_neg (of_decide_eq_false (by kernel_rfl))]; exact ⟨rfl, rfl⟩)
    (fun os started H enc _ F0 => by rw [OpenClaim.pre_eq_preRow]; exact lifted os started H enc F0)

theorem vectorChecks_holds : Rows.VectorChecksCardSaid :=
  Claim7.holds_tied_plain_at .later [] [.data, .data, .data, .data, .sentinel, .sentinel, .pinned] true (true, "66a19b420da7a6ade5a876ec01c7be38db28fa17d6001cd5a28ec729812d2141") true
    said (fun _ h => by cases h) (by kernel_rfl) (fun _ h => by cases h) vectorChecks_row_tie rfl ⟨rfl, rfl⟩ (by kernel_rfl) rfl
    (fun f fn hf hfn => by
      obtain rfl : f = 11 := Option.some.inj ((show Tryz.prog.funcNamed "metrolab/metrolablaw07.VectorChecks" = some 11 by kernel_rfl).symm.trans hf) |>.symm
      obtain rfl : fn = Tryz.f11 := (Option.some.inj (Tryz.func11.symm.trans hfn)).symm
      exact ⟨by kernel_rfl, fun j t ht => by
        rw [Tryz.params11] at ht
        rcases j with _ | j
        · exact (Option.some.inj ht) ▸ (show Tryz.prog.wantsStandIn 65 = false by kernel_rfl)
        · simp at ht⟩)
    (by kernel_rfl)
#print axioms vectorChecks_holds
end Go.Proofs.YtblfinpfcpglcaaGreatDoor
