/- VectorTurns: near or far. -/
import Derived.Test.YtblfinpfcpglcaaGreatDoorTurns
namespace Go.Proofs.YtblfinpfcpglcaaGreatDoor
open Go.RowKit MLab

theorem turns_any (w : World) (ax ay bx by_ cx cy ux uy : Int) (hs : Std w) : Calls Tryz.prog 9 #[.agg #[.int .i64 ax, .int .i64 ay, .int .i64 bx, .int .i64 by_, .int .i64 cx, .int .i64 cy], .agg #[.int .i64 ux, .int .i64 uy]] w fun e w' => e = .returned (.bool true) ∧ Below w.heap.size w w' := by
  by_cases hsm : Sm ax ay ∧ Sm bx by_ ∧ Sm cx cy ∧ Sm ux uy
  · have hall : [(ax, ay), (bx, by_), (cx, cy), (ux, uy)].all smP = true := by simp only [List.all_cons, List.all_nil, smP, Bool.and_true, Bool.and_eq_true, decide_eq_true_eq]; exact hsm
    exact turns_near w ax ay bx by_ cx cy ux uy hall hsm hs
  · have hall : [(ax, ay), (bx, by_), (cx, cy), (ux, uy)].all smP = false := by
      rw [← Bool.not_eq_true]
      intro h
      simp only [List.all_cons, List.all_nil, smP, Bool.and_true, Bool.and_eq_true, decide_eq_true_eq] at h
      exact hsm h
    exact turns_far w ax ay bx by_ cx cy ux uy hall hs
end Go.Proofs.YtblfinpfcpglcaaGreatDoor
