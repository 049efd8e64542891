/- TopLotsDecide holds: in a run, each lot is accepted exactly if the plan of the mode in which it is inspected decides so. -/
import Derived.Test.YthmmgjieppknkaaGreatDoorCards
import Derived.Test.YthmmgjieppknkaaGreatDoorTie
import Derived.Test.YthmmgjieppknkaaGreatDoorRowTopLotsDecideC
import Derived.SevenTiedAt
namespace Go.Proofs.YthmmgjieppknkaaGreatDoor
open Go.ChangeShapes Go.WideShapes Go.ChangeAt Go.RowKit Go.Joins MLab

theorem topLotsDecide_holds : Rows.TopLotsDecideCardSaid :=
  Claim7.holds_tied_plain_at .later [] [.data, .data, .data, .data, .sentinel, .sentinel, .pinned] true (true, "b64c57e0705400712449fd032a8421ef858f238946d0d17470964a54dcd6c77c") true
    said (fun _ h => by cases h) (by kernel_rfl) (fun _ h => by cases h) topLotsDecide_row_tie rfl ⟨rfl, rfl⟩ (by kernel_rfl) rfl
    (fun f fn hf hfn => by
      obtain rfl : f = 13 := Option.some.inj ((show Tryz.prog.funcNamed "metrolab/metrolabtop.TopLotsDecide" = some 13 by kernel_rfl).symm.trans hf) |>.symm
      obtain rfl : fn = Tryz.f13 := (Option.some.inj (Tryz.func13.symm.trans hfn)).symm
      exact ⟨by kernel_rfl, fun j t ht => by
        rw [Tryz.params13] at ht
        rcases j with _ | _ | j
        · exact (Option.some.inj ht) ▸ (show Tryz.prog.wantsStandIn 26 = false by kernel_rfl)
        · exact (Option.some.inj ht) ▸ (show Tryz.prog.wantsStandIn 54 = false by kernel_rfl)
        · simp at ht⟩)
    (by kernel_rfl)
#print axioms topLotsDecide_holds
end Go.Proofs.YthmmgjieppknkaaGreatDoor
