/- Contracts and plain laws that the statements of this seat share (part Kan). -/
import Derived.Test.YthmmgjieppknkaaGreatDoorKaa
import Derived.Test.YthmmgjieppknkaaGreatDoorKac
import Derived.Test.YthmmgjieppknkaaGreatDoorKad
import Derived.Test.YthmmgjieppknkaaGreatDoorKaf
import Derived.Test.YthmmgjieppknkaaGreatDoorKal
import Derived.Test.YthmmgjieppknkaaGreatDoorKam
namespace Go.Proofs.YthmmgjieppknkaaGreatDoor
open Go.RowKit MLab
theorem small30 {n : Nat} (h : n < 10 ^ 30) : ((n : Nat) : Int).natAbs < Big := by
  have := pow_big (k := 30) (by decide)
  rw [Int.natAbs_natCast]; omega
end Go.Proofs.YthmmgjieppknkaaGreatDoor
