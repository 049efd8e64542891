/- Contracts and plain laws that the statements of this seat share (part Ktaq). -/
import Derived.Test.YthmmgjieppknkaaGreatDoorKtaa
import Derived.Test.YthmmgjieppknkaaGreatDoorKtac
import Derived.Test.YthmmgjieppknkaaGreatDoorKtad
import Derived.Test.YthmmgjieppknkaaGreatDoorKtaf
import Derived.Test.YthmmgjieppknkaaGreatDoorKtal
import Derived.Test.YthmmgjieppknkaaGreatDoorKtam
import Derived.Test.YthmmgjieppknkaaGreatDoorKtan
import Derived.Test.YthmmgjieppknkaaGreatDoorKtap
import Derived.Deep.RegionHeld3
namespace Go.Proofs.YthmmgjieppknkaaGreatDoor
open Go.RowKit MLab
end Go.Proofs.YthmmgjieppknkaaGreatDoor
namespace Go.Proofs.YthmmgjieppknkaaGreatDoor
open Go.RowKit MLab
end Go.Proofs.YthmmgjieppknkaaGreatDoor
namespace Go.Proofs.YthmmgjieppknkaaGreatDoor
open Go.RowKit MLab
theorem RT_zero : RT 0 = [48] := by rw [RT, if_pos (by rfl)]; exact T_zero
end Go.Proofs.YthmmgjieppknkaaGreatDoor

namespace Go.Proofs.YthmmgjieppknkaaGreatDoor
open Go.RowKit Go.Shelf MLab
set_option maxRecDepth 100000 in
set_option maxHeartbeats 2000000 in
theorem wsign_any (w : World) (s : ByteArray) (z : Int) (hs : s.data.toList = T z) (hz : z.natAbs < Big) :
    Calls Tryz.prog 138 #[.string s] w fun e w' => e = .returned (.tuple #[.int .i64 z.sign, .int .i64 0]) ∧ Below w.heap.size w w' := by
  have HC := hide (check_any s _ hs (by have := T_size hs hz; omega) w)
  rw [chk_T, if_pos hz] at HC
  have HG := hide (fun W => sign_any W s z hs)
  obtain ⟨r, hr⟩ : ∃ r, z.sign = r := ⟨_, rfl⟩
  rw [hr] at HG ⊢
  clear hs hz hr
  go_enter Tryz.func138, Tryz.ntmps138
  go_wp2_with fail
  refine HC.out.mono ?_
  rintro e w1 ⟨rfl, hb1⟩
  have HB := hide hb1
  clear hb1 HC
  go_wp2_with fail
  refine (HG.out _).mono ?_
  rintro e w2 ⟨rfl, rfl⟩
  go_wp2_with fail
  go_ret2
  exact ⟨rfl, HB.out⟩
set_option maxRecDepth 100000 in
set_option maxHeartbeats 2000000 in
theorem rsignq_any (w : World) (a : ByteArray) (q : Rat) (ha : a.data.toList = RT q) (hq : Fit q) (hs : Std w) :
    Calls Tryz.prog 102 #[.string a] w fun e w' => e = .returned (.tuple #[.int .i64 q.num.sign, .int .i64 0]) ∧ Below w.heap.size w w' := by
  have HC := hide (rparts_any w a q ha hq hs)
  have HG := hide (fun W => wsign_any W ⟨(T q.num).toArray⟩ q.num rfl hq.1)
  obtain ⟨r, hr⟩ : ∃ r, q.num.sign = r := ⟨_, rfl⟩
  rw [hr] at HG ⊢
  clear ha hq hs hr
  go_enter Tryz.func102, Tryz.ntmps102
  go_wp2_with fail
  refine HC.out.mono ?_
  rintro e w1 ⟨rfl, hb1⟩
  have HB := hide hb1
  clear hb1 HC
  go_wp2_with fail
  refine (HG.out _).mono ?_
  rintro e w2 ⟨rfl, hb2⟩
  replace HB := hide (HB.out.trans (hb2.mono HB.out.size))
  clear hb2
  go_wp2_with fail
  go_ret2
  exact ⟨rfl, HB.out⟩
theorem RT_one : RT 1 = [49] := by rw [RT, if_pos (by rfl)]; exact T_one
theorem fit_one : Fit 1 := ⟨by show (1 : Int).natAbs < Big; exact small30 (n := 1) (by decide), one_lt_big⟩
theorem cmp_one {q : Rat} (hq : Fit q) : cmpV q 1 = .tuple #[.int .i64 (q.num - q.den).sign, .int .i64 0] := by
  unfold cmpV
  rw [show (1 : Rat).den = 1 from rfl, show (1 : Rat).num = 1 from rfl]
  rw [if_pos ⟨by simpa using hq.1, by simpa using hq.2⟩]
  simp
theorem num_sign {q : Rat} : q.num.sign < 0 ↔ ¬ 0 ≤ q := by
  rw [Int.sign_neg_iff, ← Rat.num_nonneg]; omega
theorem one_sign {q : Rat} : 0 < (q.num - q.den).sign ↔ ¬ q ≤ 1 := by
  rw [Int.sign_pos_iff, Rat.not_le, Rat.lt_iff]
  simp
end Go.Proofs.YthmmgjieppknkaaGreatDoor
