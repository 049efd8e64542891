/- Contracts and plain laws that the statements of this seat share (part Ktar). -/
import Derived.Test.YthmmgjieppknkaaGreatDoorKtaa
import Derived.Test.YthmmgjieppknkaaGreatDoorKtac
import Derived.Test.YthmmgjieppknkaaGreatDoorKtad
import Derived.Test.YthmmgjieppknkaaGreatDoorKtaf
import Derived.Test.YthmmgjieppknkaaGreatDoorKtal
import Derived.Test.YthmmgjieppknkaaGreatDoorKtam
import Derived.Test.YthmmgjieppknkaaGreatDoorKtan
import Derived.Test.YthmmgjieppknkaaGreatDoorKtao
import Derived.Test.YthmmgjieppknkaaGreatDoorKtap
import Derived.Test.YthmmgjieppknkaaGreatDoorKtaq
namespace Go.Proofs.YthmmgjieppknkaaGreatDoor
open Go.RowKit Go.Shelf MLab
def sgn (p q : Rat) : Int := (p.num * q.den - q.num * p.den).sign
theorem subS_any (w : World) (a b : ByteArray) (p q : Rat) (m : Nat) (ha : a.data.toList = RT p) (hb : b.data.toList = RT q) (hm : m ≤ 500) (hp : Sz m m p) (hq : Sz m m q) (hs : Std w) :
    Calls Tryz.prog 65 #[.string a, .string b] w fun e w' => RetRat (p - q) e ∧ Below w.heap.size w w' :=
  rsub_any w a b p q ha hb (hp.fit (by omega) (by omega)) (hq.fit (by omega) (by omega)) (big_of_pow (cross_lt hp hq) (by omega)) (big_of_pow (cross_lt hq hp) (by omega)) (big_of_pow (dif_lt hp hq (Nat.le_refl (m + m)) (Nat.le_refl _)) (by omega)) (big_of_le (dens_le hp hq) (by omega)) hs
theorem sz_one {m : Nat} (hm : 1 ≤ m) : Sz m m (1 : Rat) := by
  have h := Sz.int (a := 1) (n := 1) (by decide)
  exact Sz.mono h hm (by omega)
end Go.Proofs.YthmmgjieppknkaaGreatDoor

namespace Go.Proofs.YthmmgjieppknkaaGreatDoor
open Go.RowKit Go.Shelf MLab
theorem addS_any (w : World) (a b : ByteArray) (p q : Rat) (m : Nat) (ha : a.data.toList = RT p) (hb : b.data.toList = RT q) (hm : m ≤ 500) (hp : Sz m m p) (hq : Sz m m q) (hs : Std w) :
    Calls Tryz.prog 109 #[.string a, .string b] w fun e w' => RetRat (p + q) e ∧ Below w.heap.size w w' :=
  radd_any w a b p q ha hb (hp.fit (by omega) (by omega)) (hq.fit (by omega) (by omega)) (big_of_pow (cross_lt hp hq) (by omega)) (big_of_pow (cross_lt hq hp) (by omega)) (big_of_pow (sum_lt hp hq (Nat.le_refl (m + m)) (Nat.le_refl _)) (by omega)) (big_of_le (dens_le hp hq) (by omega)) hs
end Go.Proofs.YthmmgjieppknkaaGreatDoor
