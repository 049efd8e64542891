/- Contracts and plain laws that the statements of this seat share (part Ktap). -/
import Derived.Test.YthmmgjieppknkaaGreatDoorKtaa
import Derived.Test.YthmmgjieppknkaaGreatDoorKtac
import Derived.Test.YthmmgjieppknkaaGreatDoorKtaf
import Derived.Test.YthmmgjieppknkaaGreatDoorKtal
import Derived.Test.YthmmgjieppknkaaGreatDoorKtam
import Derived.Deep.OwnRows
import Derived.Lib.LazyBuf
import Derived.Laws.BytesArg
import Derived.RegionTactic
import Derived.BigRegion
namespace Go.Proofs.YthmmgjieppknkaaGreatDoor
open Go.RowKit MLab
end Go.Proofs.YthmmgjieppknkaaGreatDoor
namespace Go.Proofs.YthmmgjieppknkaaGreatDoor
open Go.RowKit MLab
def Sum (n : Nat) (x y e : Nat → Nat) (i c : Nat) : Prop := dval e i (n - i) + c * 10 ^ (n - i) = dval x i (n - i) + dval y i (n - i)
def Dif (n : Nat) (x y e : Nat → Nat) (i c : Nat) : Prop := dval e i (n - i) + dval y i (n - i) = dval x i (n - i) + c * 10 ^ (n - i)
theorem dval_upd {e : Nat → Nat} {i j v : Nat} (h : i < j) (k : Nat) : dval (upd e i v) j k = dval e j k :=
  dval_congr k j fun t ht _ => upd_other e v (by omega)
theorem Sum.step {n i c d : Nat} {x y e : Nat → Nat} (h : Sum n x y e (i + 1) c) (hi : i < n) (hd : d = (x i + y i + c) % 10) : Sum n x y (upd e i d) i ((x i + y i + c) / 10) := by
  unfold Sum at *
  rw [show n - i = (n - (i + 1)) + 1 by omega, dval, dval, dval, dval_upd (by omega), upd_same, Nat.pow_succ]
  generalize dval e (i + 1) (n - (i + 1)) = A at *
  generalize dval x (i + 1) (n - (i + 1)) = B at *
  generalize dval y (i + 1) (n - (i + 1)) = C at *
  generalize 10 ^ (n - (i + 1)) = P at *
  have hdm := Nat.div_add_mod (x i + y i + c) 10
  rw [← hd] at hdm
  generalize (x i + y i + c) / 10 = q at *
  have h2 : (10 * q + d) * P = (x i + y i + c) * P := by rw [hdm]
  simp only [Nat.add_mul] at h2
  have e1 : q * (P * 10) = 10 * q * P := by rw [Nat.mul_comm P 10, ← Nat.mul_assoc, Nat.mul_comm q 10]
  rw [e1]
  omega
theorem Dif.step {n i c d b : Nat} {x y e : Nat → Nat} (h : Dif n x y e (i + 1) c) (hi : i < n) (hd : d + y i + c = x i + 10 * b) : Dif n x y (upd e i d) i b := by
  unfold Dif at *
  rw [show n - i = (n - (i + 1)) + 1 by omega, dval, dval, dval, dval_upd (by omega), upd_same, Nat.pow_succ]
  generalize dval e (i + 1) (n - (i + 1)) = A at *
  generalize dval x (i + 1) (n - (i + 1)) = B at *
  generalize dval y (i + 1) (n - (i + 1)) = C at *
  generalize 10 ^ (n - (i + 1)) = P at *
  have h2 : (d + y i + c) * P = (x i + 10 * b) * P := by rw [hd]
  simp only [Nat.add_mul] at h2
  have e1 : b * (P * 10) = 10 * b * P := by rw [Nat.mul_comm P 10, ← Nat.mul_assoc, Nat.mul_comm b 10]
  rw [e1]
  omega
end Go.Proofs.YthmmgjieppknkaaGreatDoor

namespace Go.Proofs.YthmmgjieppknkaaGreatDoor
open Go.RowKit MLab
theorem dval_add (d : Nat → Nat) (v : Nat) : ∀ (k i p : Nat), i ≤ p → p < i + k → dval (upd d p (d p + v)) i k = dval d i k + v * 10 ^ (i + k - (p + 1))
  | 0, _, _, h1, h2 => by omega
  | k + 1, i, p, h1, h2 => by
    rw [dval, dval]
    by_cases h : p = i
    · subst h
      rw [upd_same, dval_upd (by omega), Nat.add_mul, show p + (k + 1) - (p + 1) = k by omega]; omega
    · rw [upd_other d _ (by omega), dval_add d v k (i + 1) p (by omega) (by omega), show i + 1 + k - (p + 1) = i + (k + 1) - (p + 1) by omega]; omega
theorem val_take_succ {l : List UInt8} {k : Nat} (h : k < l.length) : val (l.take (k + 1)) = val (l.take k) * 10 + dg l k := by
  rw [take_snoc h, val_snoc, dg_at h]
structure Cols (A B : List UInt8) (d : Nat → Nat) (i k : Nat) : Prop where
  tot : dval d 0 (A.length + B.length) = val (A.take i) * 10 ^ (A.length - i) * val B + dg A i * 10 ^ (A.length - (i + 1)) * (val (B.take k) * 10 ^ (B.length - k))
  all : ∀ p, d p ≤ 81 * (i + 1)
  low : ∀ p, i + k < p → d p ≤ 81 * i
theorem Cols.start (A B : List UInt8) : Cols A B (fun _ => 0) 0 0 :=
  ⟨by
    have h : ∀ k i, dval (fun _ => 0) i k = 0 := by
      intro k
      induction k with
      | zero => intro i; rfl
      | succ k ih => intro i; rw [dval, ih]; simp
    rw [h]; simp [val], fun _ => Nat.zero_le _, fun _ _ => Nat.zero_le _⟩
theorem Cols.step {A B : List UInt8} {d : Nat → Nat} {i k : Nat} (h : Cols A B d i k) (hA : Dig A) (hB : Dig B) (hi : i < A.length) (hk : k < B.length) : Cols A B (upd d (i + k + 1) (d (i + k + 1) + dg A i * dg B k)) i (k + 1) := by
  have h1 := dg_lt hA i
  have h2 := dg_lt hB k
  have h3 : dg A i * dg B k ≤ 81 := by have := Nat.mul_le_mul h1 h2; omega
  refine ⟨?_, fun p => ?_, fun p hp => ?_⟩
  · rw [dval_add d _ _ 0 _ (Nat.zero_le _) (by omega), h.tot, val_take_succ hk, show B.length - k = (B.length - (k + 1)) + 1 by omega, Nat.pow_succ, show 0 + (A.length + B.length) - (i + k + 1 + 1) = (A.length - (i + 1)) + (B.length - (k + 1)) by omega, Nat.pow_add]
    generalize 10 ^ (A.length - (i + 1)) = P
    generalize 10 ^ (B.length - (k + 1)) = Q
    generalize val (A.take i) * 10 ^ (A.length - i) * val B = R
    generalize val (B.take k) = V
    generalize dg A i = x
    generalize dg B k = y
    grind
  · by_cases e : p = i + k + 1
    · subst e; rw [upd_same]; have := h.low (i + k + 1) (by omega); omega
    · rw [upd_other d _ e]; exact h.all p
  · rw [upd_other d _ (by omega)]; exact h.low p (by omega)
theorem Cols.next {A B : List UInt8} {d : Nat → Nat} {i : Nat} (h : Cols A B d i B.length) (hi : i < A.length) : Cols A B d (i + 1) 0 := by
  refine ⟨?_, fun p => Nat.le_trans (h.all p) (by omega), fun p _ => h.all p⟩
  rw [h.tot, val_take_succ hi, List.take_zero, val_nil, Nat.sub_self, List.take_length, show A.length - i = (A.length - (i + 1)) + 1 by omega, Nat.pow_succ]
  generalize 10 ^ (A.length - (i + 1)) = P
  generalize val (A.take i) = V
  generalize dg A i = x
  generalize val B = y
  grind
def Car (n : Nat) (d e : Nat → Nat) (i c : Nat) : Prop := dval e i (n - i) + c * 10 ^ (n - i) = dval d i (n - i)
theorem Car.step {n i c v : Nat} {d e : Nat → Nat} (h : Car n d e (i + 1) c) (hi : i < n) (hv : v = (c + d i) % 10) : Car n d (upd e i v) i ((c + d i) / 10) := by
  unfold Car at *
  rw [show n - i = (n - (i + 1)) + 1 by omega, dval, dval, dval_upd (by omega), upd_same, Nat.pow_succ]
  generalize dval e (i + 1) (n - (i + 1)) = A at *
  generalize dval d (i + 1) (n - (i + 1)) = B at *
  generalize 10 ^ (n - (i + 1)) = P at *
  have hdm := Nat.div_add_mod (c + d i) 10
  rw [← hv] at hdm
  generalize (c + d i) / 10 = q at *
  have h2 : (10 * q + v) * P = (c + d i) * P := by rw [hdm]
  simp only [Nat.add_mul] at h2
  have e1 : q * (P * 10) = 10 * q * P := by rw [Nat.mul_comm P 10, ← Nat.mul_assoc, Nat.mul_comm q 10]
  rw [e1]
  omega
end Go.Proofs.YthmmgjieppknkaaGreatDoor
namespace Go.Proofs.YthmmgjieppknkaaGreatDoor
open Go.RowKit MLab
end Go.Proofs.YthmmgjieppknkaaGreatDoor

namespace Go.Proofs.YthmmgjieppknkaaGreatDoor
open Go.RowKit MLab
structure RTwo (a b : ByteArray) (x y : Int) : Prop where
  ha : a.data.toList = T x
  hb : b.data.toList = T y
  az : a.size ≤ 800000
  bz : b.size ≤ 800000
theorem RTwo.small {a b : ByteArray} {x y : Int} (h : RTwo a b x y) : (Lib.decDigits x.natAbs).length ≤ 800000 ∧ (Lib.decDigits y.natAbs).length ≤ 800000 :=
  ⟨Nat.le_trans (mag_T_len h.ha).1 h.az, Nat.le_trans (mag_T_len h.hb).1 h.bz⟩
end Go.Proofs.YthmmgjieppknkaaGreatDoor
namespace Go.Proofs.YthmmgjieppknkaaGreatDoor
open Go.RowKit MLab
end Go.Proofs.YthmmgjieppknkaaGreatDoor
namespace Go.Proofs.YthmmgjieppknkaaGreatDoor
open Go.RowKit MLab
end Go.Proofs.YthmmgjieppknkaaGreatDoor
