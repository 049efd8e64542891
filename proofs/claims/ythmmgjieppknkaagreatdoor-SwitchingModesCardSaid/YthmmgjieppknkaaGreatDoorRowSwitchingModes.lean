/- SwitchingModes holds: ten accepted lots in a row lead to Reduced, two rejected ones of at most five to Tightened, and from there five accepted ones back to Normal, and five rejected ones to a stop. -/
import Derived.Test.YthmmgjieppknkaaGreatDoorCards
import Derived.Test.YthmmgjieppknkaaGreatDoorTie
import Derived.Test.YthmmgjieppknkaaGreatDoorRowSwitchingModesC
import Derived.SevenTiedAt
namespace Go.Proofs.YthmmgjieppknkaaGreatDoor
open Go.ChangeShapes Go.WideShapes Go.ChangeAt Go.RowKit Go.Joins MLab

theorem switchingModes_holds : Rows.SwitchingModesCardSaid :=
  Claim7.holds_tied_plain_at .later [] [.data, .data, .data, .data, .sentinel, .sentinel, .pinned] true (true, "b64c57e0705400712449fd032a8421ef858f238946d0d17470964a54dcd6c77c") true
    said (fun _ h => by cases h) (by kernel_rfl) (fun _ h => by cases h) switchingModes_row_tie rfl ⟨rfl, rfl⟩ (by kernel_rfl) rfl
    (fun f fn hf hfn => by
      obtain rfl : f = 11 := Option.some.inj ((show Tryz.prog.funcNamed "metrolab/metrolablaw55.SwitchingModes" = some 11 by kernel_rfl).symm.trans hf) |>.symm
      obtain rfl : fn = Tryz.f11 := (Option.some.inj (Tryz.func11.symm.trans hfn)).symm
      exact ⟨by kernel_rfl, fun j t ht => by
        rw [Tryz.params11] at ht
        rcases j with _ | _ | j
        · exact (Option.some.inj ht) ▸ (show Tryz.prog.wantsStandIn 26 = false by kernel_rfl)
        · exact (Option.some.inj ht) ▸ (show Tryz.prog.wantsStandIn 5 = false by kernel_rfl)
        · simp at ht⟩)
    (by kernel_rfl)
#print axioms switchingModes_holds
end Go.Proofs.YthmmgjieppknkaaGreatDoor
