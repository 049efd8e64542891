/- Equality of arrays of three integers. -/
import Derived.Test.YtblfinpfcpglcaaGreatDoorPts
import Derived.ChangeKeysEq
namespace Go.Proofs.YtblfinpfcpglcaaGreatDoor
open Go.RowKit MLab

theorem info_int : ∃ i, Tryz.prog.info? 3 = some i := Option.isSome_iff_exists.1 (by kernel_rfl)
theorem cells_int : Tryz.prog.cellsOf 3 = 1 := by kernel_rfl
theorem plain_int : Tryz.prog.plainKey 3 = true := by kernel_rfl
/-- The equality of two arrays of three integers. -/
theorem run_eq3 (w : World) (a b c d e f : Int) :
    (Op.equalIn 10000 35 (.agg #[.int .i64 a, .int .i64 b, .int .i64 c]) (.agg #[.int .i64 d, .int .i64 e, .int .i64 f])).run Tryz.prog w = .ok (decide (a = d ∧ b = e ∧ c = f)) w := by
  obtain ⟨i, hi⟩ := info_int
  have p0 : ∀ (x y z : Value), (part 3 #[x, y, z] 0).run Tryz.prog w = .ok x w := fun x y z => run_part_plain w plain_int rfl
  have p1 : ∀ (x y z : Value), (part 3 #[x, y, z] 1).run Tryz.prog w = .ok y w := fun x y z => run_part_plain w plain_int rfl
  have p2 : ∀ (x y z : Value), (part 3 #[x, y, z] 2).run Tryz.prog w = .ok z w := fun x y z => run_part_plain w plain_int rfl
  have q : ∀ (x y : Int), (Op.equalIn (9998 + 1) 3 (.int .i64 x) (.int .i64 y)).run Tryz.prog w = .ok (x == y) w := fun x y => run_equalIn_int (w := w) 9998 _ .i64 .i64 x y Tryz.underlying3
  rw [show (10000 : Nat) = (9998 + 1) + 1 from rfl, run_equalIn_array w (9998 + 1) _ _ Tryz.underlying35 hi, cells_int, show List.range 3 = [0, 1, 2] from rfl]
  simp only [Op.eqItems, Sem.run_bind, Nat.zero_mul, Nat.one_mul, show 2 * 1 = 2 from rfl, p0, q, Result.andThen_ok]
  by_cases h1 : a = d
  · by_cases h2 : b = e
    · by_cases h3 : c = f
      · simp [h1, h2, h3, q, p1, p2]
      · simp [h1, h2, h3, q, p1, p2]
    · simp [h1, h2, q, p1]
  · simp [h1]
end Go.Proofs.YtblfinpfcpglcaaGreatDoor
