/- Contracts and plain laws that the statements of this seat share (part Ktav). -/
import Derived.Test.YthmmgjieppknkaaGreatDoorKtaa
import Derived.Test.YthmmgjieppknkaaGreatDoorKtac
import Derived.Test.YthmmgjieppknkaaGreatDoorKtad
import Derived.Test.YthmmgjieppknkaaGreatDoorKtaf
import Derived.Test.YthmmgjieppknkaaGreatDoorKtak
import Derived.Test.YthmmgjieppknkaaGreatDoorKtal
import Derived.Test.YthmmgjieppknkaaGreatDoorKtam
import Derived.Test.YthmmgjieppknkaaGreatDoorKtan
import Derived.Test.YthmmgjieppknkaaGreatDoorKtao
import Derived.Test.YthmmgjieppknkaaGreatDoorKtap
import Derived.Test.YthmmgjieppknkaaGreatDoorKtaq
import Derived.Test.YthmmgjieppknkaaGreatDoorKtar
namespace Go.Proofs.YthmmgjieppknkaaGreatDoor
open Go.RowKit Go.Shelf MLab
theorem mulS_any (w : World) (a b : ByteArray) (p q : Rat) (m : Nat) (ha : a.data.toList = RT p) (hb : b.data.toList = RT q) (hm : m ≤ 500) (hp : Sz m m p) (hq : Sz m m q) (hs : Std w) :
    Calls Tryz.prog 108 #[.string a, .string b] w fun e w' => RetRat (p * q) e ∧ Below w.heap.size w w' :=
  rmulq_any w a b p q ha hb (hp.fit (by omega) (by omega)) (hq.fit (by omega) (by omega)) (big_of_pow (nums_lt hp hq) (by omega)) (big_of_le (dens_le hp hq) (by omega)) hs
end Go.Proofs.YthmmgjieppknkaaGreatDoor
