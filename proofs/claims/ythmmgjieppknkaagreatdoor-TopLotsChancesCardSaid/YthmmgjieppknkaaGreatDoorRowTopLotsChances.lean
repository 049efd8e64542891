/- TopLotsChances holds: if the lots of a process have some fraction of bad parts, the chances of the modes are those of the plans for this fraction. -/
import Derived.Test.YthmmgjieppknkaaGreatDoorCards
import Derived.Test.YthmmgjieppknkaaGreatDoorTie
import Derived.Test.YthmmgjieppknkaaGreatDoorRowTopLotsChancesC
import Derived.SevenTiedAt
namespace Go.Proofs.YthmmgjieppknkaaGreatDoor
open Go.ChangeShapes Go.WideShapes Go.ChangeAt Go.RowKit Go.Joins MLab

theorem topLotsChances_holds : Rows.TopLotsChancesCardSaid :=
  Claim7.holds_tied_plain_at .later [] [.data, .data, .data, .data, .sentinel, .sentinel, .pinned] true (true, "b64c57e0705400712449fd032a8421ef858f238946d0d17470964a54dcd6c77c") true
    said (fun _ h => by cases h) (by kernel_rfl) (fun _ h => by cases h) topLotsChances_row_tie rfl ⟨rfl, rfl⟩ (by kernel_rfl) rfl
    (fun f fn hf hfn => by
      obtain rfl : f = 12 := Option.some.inj ((show Tryz.prog.funcNamed "metrolab/metrolabtop.TopLotsChances" = some 12 by kernel_rfl).symm.trans hf) |>.symm
      obtain rfl : fn = Tryz.f12 := (Option.some.inj (Tryz.func12.symm.trans hfn)).symm
      exact ⟨by kernel_rfl, fun j t ht => by
        rw [Tryz.params12] at ht
        rcases j with _ | _ | j
        · exact (Option.some.inj ht) ▸ (show Tryz.prog.wantsStandIn 26 = false by kernel_rfl)
        · exact (Option.some.inj ht) ▸ (show Tryz.prog.wantsStandIn 5 = false by kernel_rfl)
        · simp at ht⟩)
    (by kernel_rfl)
#print axioms topLotsChances_holds
end Go.Proofs.YthmmgjieppknkaaGreatDoor
