/- VectorProducts holds: Dot, Cross, Side and Square of the program and of the reference agree for all points. -/
import Derived.Test.YtblfinpfcpglcaaGreatDoorRows
import Derived.Test.YtblfinpfcpglcaaGreatDoorCards
import Derived.Test.YtblfinpfcpglcaaGreatDoorTie
import Derived.Test.YtblfinpfcpglcaaGreatDoorProd
import Derived.Deep.DeepHandedRow
import Derived.ProofKit
import Derived.Lib.SmallJoins
import Derived.Lib.LaidTab
import Derived.Stop.LaidErr
import Derived.LaidMore
import Derived.OpenShut
import Derived.SevenTiedAt
namespace Go.Proofs.YtblfinpfcpglcaaGreatDoor
open Go.ChangeShapes Go.WideShapes Go.ChangeAt Go.RowKit Go.Joins

theorem own : ownKnob Tryz.prog.godebug = none := by kernel_rfl
theorem laidOut : laidOutB Tryz.prog = true := by kernel_rfl
theorem gTab : Tryz.prog.globalNamed "internal/strconv.uint64pow10" = some 1 := by kernel_rfl

/-- The numbers of a datum that is an array of integers. -/
def intsOf : DataW Unit → Array Value
  | .agg xs => (xs.map fun x => match x with | .lit (.int k n) => Value.int k n | _ => undef).toArray
  | _ => #[]
/-- The world that the program's own door leaves, the pinned table laid besides. -/
noncomputable def laidWorld (os : Os) : World :=
  { World.doorLaid Tryz.prog 72 os with heap := (World.doorLaid Tryz.prog 72 os).heap.modify 4 fun
      | .cells _ t frozen => .cells (intsOf Rows.laid_unicode_utf8_first) t frozen
      | o => o }
theorem laid_met (os : Os) (args : Array Value) : laidMetH Tryz.prog Rows.vectorProductsRow.laid ((laidWorld os).forCall (fun _ _ => 0) ⟨#[], args, []⟩).memory := by
  rw [MakeChecks.laidMetH_plain _ _ _ (by kernel_rfl)]
  exact laidMet_of_run' 8 (by kernel_rfl) (by kernel_rfl)

theorem tabType : (Tryz.prog.globals[1]?).map (·.type) = some 231 := by kernel_rfl
theorem cells_u64 : Tryz.prog.cellsOf 209 = 1 := by kernel_rfl
theorem cells_tab : Tryz.prog.cellsOf 231 = 20 := by kernel_rfl
theorem cells_pt : Tryz.prog.cellsOf 23 = 2 := by kernel_rfl
/-- What the row's condition gives the walks. -/
theorem std_of_laid {W : World} (hL : laidMetH Tryz.prog Rows.vectorProductsRow.laid W) (hs : W.ShapedOpen Tryz.prog) : Std W := by
  rw [MakeChecks.laidMetH_plain _ _ _ (by kernel_rfl)] at hL
  exact ⟨Lib.tabIs_of_head gTab tabType Tryz.underlying231 Tryz.underlying209 cells_u64 cells_tab (laidMet.tail (laidMet.tail hL)), hs⟩

theorem witness_row (os : Os) {H : Type} (enc : TypeId × Value → H) :
    (OpenSpec.ofChange Rows.vectorProductsSpec).preRow enc Tryz.prog Tryz.f7 Rows.vectorProductsRow.domain false Rows.vectorProductsRow.laid ((laidWorld os).forCall (fun _ _ => 0) ⟨#[], #[ptv 0 0, ptv 0 0, ptv 0 0], []⟩).memory #[ptv 0 0, ptv 0 0, ptv 0 0] := by
  have hw : (DataW.whole enc Tryz.prog ((laidWorld os).forCall (fun _ _ => 0) ⟨#[], #[ptv 0 0, ptv 0 0, ptv 0 0], []⟩).memory Tryz.f7.params.toList (OpenSpec.ofChange Rows.vectorProductsSpec).vars false #[ptv 0 0, ptv 0 0, ptv 0 0].toList 8).map (fun x => (x.1, x.2.1)) =
      some ([.agg [.lit (.int .i64 0), .lit (.int .i64 0)], .agg [.lit (.int .i64 0), .lit (.int .i64 0)], .agg [.lit (.int .i64 0), .lit (.int .i64 0)]], []) := by kernel_rfl
  obtain ⟨⟨x1, x2, x3⟩, hx, hx1⟩ := Option.map_eq_some_iff.1 hw
  simp only [Prod.mk.injEq] at hx1
  obtain ⟨rfl, rfl⟩ := hx1
  exact OpenSpec.preRow_of_cond 8 hx (by kernel_rfl) (fun k hk => by cases hk) (by kernel_rfl) (laid_met os _)

set_option maxRecDepth 100000 in
set_option maxHeartbeats 2000000 in
theorem lifted (os : Os) (started : os.Started) (H : Type) (enc : TypeId × Value → H) (F : Stop.Interp) :
    ReturnsInHanded {} Tryz.checked os 7 .any ((OpenSpec.ofChange Rows.vectorProductsSpec).preRow enc Tryz.prog Tryz.f7 Rows.vectorProductsRow.domain false Rows.vectorProductsRow.laid) (((OpenSpec.ofChange Rows.vectorProductsSpec).at F).post enc Tryz.prog Tryz.f7 false true false false) := by
  refine returnsInHanded_of_row (C := Tryz.checked) (s := OpenSpec.ofChange Rows.vectorProductsSpec) own started (by kernel_rfl) Tryz.func7
    (witness_row_at (enc := enc) (C := Tryz.checked) false (laidWorld os) #[ptv 0 0, ptv 0 0, ptv 0 0] rfl (by kernel_rfl) (by kernel_rfl) (by kernel_rfl) (witness_row os enc)) ?_
  intro W base args ds gs before hval0 hW _ _ _ hL hsh _
  have hval : ∀ (j : Nat) t v, Tryz.f7.params[j]? = some t → args[j]? = some v → Value.okWide Tryz.prog W .any base t v := hval0
  have hW' := hW
  obtain ⟨p, q, hA0, hV0, rfl, _, _⟩ := hW
  have hA : DataW.TrodAll enc Tryz.prog W 0 (fun _ => true) true Tryz.f7.params.toList args.toList ds p := hA0
  rw [Tryz.params7] at hA hval
  obtain ⟨v0, v1, v2, d0, d1, d2, p0, p1, p2, rfl, rfl, rfl, h0, h1, h2⟩ := trodAll_three hA
  obtain ⟨rfl, rfl⟩ := trodVars_none hV0
  have h0k := h0
  have h1k := h1
  have h2k := h2
  obtain ⟨c0, c1, y0, y1, m0, rfl, rfl, rfl, a0, a1⟩ := open_agg2 Tryz.underlying23 (by kernel_rfl) cells_pt (hval 0 23 v0 rfl rfl) h0
  obtain ⟨c2, c3, y2, y3, m1, rfl, rfl, rfl, a2, a3⟩ := open_agg2 Tryz.underlying23 (by kernel_rfl) cells_pt (hval 1 23 v1 rfl rfl) h1
  obtain ⟨c4, c5, y4, y5, m2, rfl, rfl, rfl, a4, a5⟩ := open_agg2 Tryz.underlying23 (by kernel_rfl) cells_pt (hval 2 23 v2 rfl rfl) h2
  obtain ⟨ax, q0, rfl, w0⟩ := DataW.trod_int Tryz.underlying3 a0
  simp only [List.cons.injEq, and_true] at q0
  subst q0
  obtain ⟨ay, q1, rfl, w1⟩ := DataW.trod_int Tryz.underlying3 a1
  simp only [List.cons.injEq, and_true] at q1
  subst q1
  obtain ⟨bx, q2, rfl, w2⟩ := DataW.trod_int Tryz.underlying3 a2
  simp only [List.cons.injEq, and_true] at q2
  subst q2
  obtain ⟨by_, q3, rfl, w3⟩ := DataW.trod_int Tryz.underlying3 a3
  simp only [List.cons.injEq, and_true] at q3
  subst q3
  obtain ⟨cx, q4, rfl, w4⟩ := DataW.trod_int Tryz.underlying3 a4
  simp only [List.cons.injEq, and_true] at q4
  subst q4
  obtain ⟨cy, q5, rfl, w5⟩ := DataW.trod_int Tryz.underlying3 a5
  simp only [List.cons.injEq, and_true] at q5
  subst q5
  have hlt : ∀ x ∈ ([] : List MemPlace), x.block < W.heap.size := fun x hx => by cases hx
  refine (products_any W ax ay bx by_ cx cy (std_of_laid hL hsh)).mono ?_
  rintro e W' ⟨rfl, bel⟩
  refine ⟨_, rfl, _, _, _, [], [], [], hW', ?_, ?_, ?_, bel.frame _, fun h => by cases h⟩
  · exact trodAll_mk1 (shut_bool Tryz.underlying4 _)
  · exact trodAll_mk3 (Below.trod laidOut (by kernel_rfl) (of_decide_eq_true (by kernel_rfl)) h0k bel hlt) (Below.trod laidOut (by kernel_rfl) (of_decide_eq_true (by kernel_rfl)) h1k bel hlt) (Below.trod laidOut (by kernel_rfl) (of_decide_eq_true (by kernel_rfl)) h2k bel hlt)
  · rfl

theorem said : Rows.VectorProductsSaid :=
  OpenClaim.holds_of_cond 7 Tryz.f7 rfl rfl rfl rfl rfl rfl rfl ⟨rfl, rfl, rfl, rfl, rfl⟩ rfl rfl rfl rfl rfl (by kernel_rfl) Tryz.func7 (by kernel_rfl)
    (of_decide_eq_true (by kernel_rfl)) (by unfold Func.isWrapper; rw [if_neg (of_decide_eq_false (by kernel_rfl))]; exact ⟨rfl, rfl⟩)
    (fun os started H enc _ F0 => by rw [OpenClaim.pre_eq_preRow]; exact lifted os started H enc F0)

theorem products_holds : Rows.VectorProductsCardSaid :=
  Claim7.holds_tied_plain_at .later [] [.data, .data, .data, .data, .sentinel, .sentinel, .pinned] true (true, "66a19b420da7a6ade5a876ec01c7be38db28fa17d6001cd5a28ec729812d2141") true
    said (fun _ h => by cases h) (by kernel_rfl) (fun _ h => by cases h) vectorProducts_row_tie rfl ⟨rfl, rfl⟩ (by kernel_rfl) rfl
    (fun f fn hf hfn => by
      obtain rfl : f = 7 := Option.some.inj ((show Tryz.prog.funcNamed "metrolab/metrolablaw07.VectorProducts" = some 7 by kernel_rfl).symm.trans hf) |>.symm
      obtain rfl : fn = Tryz.f7 := (Option.some.inj (Tryz.func7.symm.trans hfn)).symm
      exact ⟨by kernel_rfl, fun j t ht => by
        rw [Tryz.params7] at ht
        have h3 : t = 23 := by
          rcases j with _ | _ | _ | j
          · simpa using ht.symm
          · simpa using ht.symm
          · simpa using ht.symm
          · simp at ht
        subst h3
        exact (show Tryz.prog.wantsStandIn 23 = false by kernel_rfl)⟩)
    (by kernel_rfl)
#print axioms products_holds
end Go.Proofs.YtblfinpfcpglcaaGreatDoor
