/- Sums, differences, products, quotients and powers of integers that stay short: the texts written out. -/
import Derived.Test.YtaccdkbofhlbkaaGreatDoorOps
import Derived.Test.YtaccdkbofhlbkaaGreatDoorDiv
namespace Go.Proofs.YtaccdkbofhlbkaaGreatDoor
open Go.RowKit MLab

/-- The text of an integer. -/
abbrev tx (z : Int) : Value := .string ⟨(T z).toArray⟩
theorem twoT {x y : Int} (hx : x.natAbs < Big) (hy : y.natAbs < Big) : Two ⟨(T x).toArray⟩ ⟨(T y).toArray⟩ x y := ⟨rfl, rfl, hx, hy⟩
theorem addT_any (w : World) (x y : Int) (hx : x.natAbs < Big) (hy : y.natAbs < Big) (hz : (x + y).natAbs < Big) (hs : Std w) :
    Calls Tryz.prog 104 #[tx x, tx y] w fun e w' => e = .returned (.tuple #[tx (x + y), .int .i64 0]) ∧ Below w.heap.size w w' := by
  refine (add_any w _ _ x y (twoT hx hy) hs).mono ?_
  rintro e w' ⟨h, hb⟩
  rw [lim_ok hz] at h
  exact ⟨h, hb⟩
theorem subT_any (w : World) (x y : Int) (hx : x.natAbs < Big) (hy : y.natAbs < Big) (hz : (x - y).natAbs < Big) (hs : Std w) :
    Calls Tryz.prog 60 #[tx x, tx y] w fun e w' => e = .returned (.tuple #[tx (x - y), .int .i64 0]) ∧ Below w.heap.size w w' := by
  refine (sub_any w _ _ x y (twoT hx hy) hs).mono ?_
  rintro e w' ⟨h, hb⟩
  rw [lim_ok hz] at h
  exact ⟨h, hb⟩
theorem mulT_any (w : World) (x y : Int) (hx : x.natAbs < Big) (hy : y.natAbs < Big) (hz : (x * y).natAbs < Big) (hs : Std w) :
    Calls Tryz.prog 94 #[tx x, tx y] w fun e w' => e = .returned (.tuple #[tx (x * y), .int .i64 0]) ∧ Below w.heap.size w w' := by
  refine (mul_any w _ _ x y (twoT hx hy) hs).mono ?_
  rintro e w' ⟨h, hb⟩
  rw [lim_ok hz] at h
  exact ⟨h, hb⟩
/-- A quotient without a rest. -/
theorem quoT_any (w : World) (x y z : Int) (hx : x.natAbs < Big) (hy : y.natAbs < Big) (h0 : y ≠ 0) (hxy : x = z * y) (hz : z.natAbs < Big) (hs : Std w) :
    Calls Tryz.prog 110 #[tx x, tx y] w fun e w' => e = .returned (.tuple #[tx z, .int .i64 0]) ∧ Below w.heap.size w w' := by
  refine (quo_any w _ _ x y (twoT hx hy) h0 hs).mono ?_
  rintro e w' ⟨h, hb⟩
  have hq : x.fdiv y = z := by rw [hxy]; exact Int.mul_fdiv_cancel _ h0
  rw [hq, lim_ok hz] at h
  exact ⟨h, hb⟩
end Go.Proofs.YtaccdkbofhlbkaaGreatDoor
