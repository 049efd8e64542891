/- Contracts and plain laws that the statements of this seat share (part Kav). -/
import Derived.Test.YthmmgjieppknkaaGreatDoorKaa
import Derived.Test.YthmmgjieppknkaaGreatDoorKac
import Derived.Test.YthmmgjieppknkaaGreatDoorKad
import Derived.Test.YthmmgjieppknkaaGreatDoorKaf
import Derived.Test.YthmmgjieppknkaaGreatDoorKak
import Derived.Test.YthmmgjieppknkaaGreatDoorKal
import Derived.Test.YthmmgjieppknkaaGreatDoorKam
import Derived.Test.YthmmgjieppknkaaGreatDoorKan
import Derived.Test.YthmmgjieppknkaaGreatDoorKao
import Derived.Test.YthmmgjieppknkaaGreatDoorKap
import Derived.Test.YthmmgjieppknkaaGreatDoorKaq
import Derived.Test.YthmmgjieppknkaaGreatDoorKar
namespace Go.Proofs.YthmmgjieppknkaaGreatDoor
open Go.RowKit Go.Shelf MLab
theorem mulS_any (w : World) (a b : ByteArray) (p q : Rat) (m : Nat) (ha : a.data.toList = RT p) (hb : b.data.toList = RT q) (hm : m ≤ 500) (hp : Sz m m p) (hq : Sz m m q) (hs : Std w) :
    Calls Tryz.prog 108 #[.string a, .string b] w fun e w' => RetRat (p * q) e ∧ Below w.heap.size w w' :=
  rmulq_any w a b p q ha hb (hp.fit (by omega) (by omega)) (hq.fit (by omega) (by omega)) (big_of_pow (nums_lt hp hq) (by omega)) (big_of_le (dens_le hp hq) (by omega)) hs
end Go.Proofs.YthmmgjieppknkaaGreatDoor
