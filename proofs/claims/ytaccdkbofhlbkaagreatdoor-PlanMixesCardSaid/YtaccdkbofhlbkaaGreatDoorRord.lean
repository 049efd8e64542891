/- metrolabref02.Order of right numbers that are not great. -/
import Derived.Test.YtaccdkbofhlbkaaGreatDoorRarith
import Derived.Test.YtaccdkbofhlbkaaGreatDoorRrck
namespace Go.Proofs.YtaccdkbofhlbkaaGreatDoor
open Go.RowKit MLab

set_option maxRecDepth 100000 in
set_option maxHeartbeats 2000000 in
theorem rqorder_any (w : World) (a b : ByteArray) (p q : Rat) (ha : a.data.toList = RT p) (hb : b.data.toList = RT q) {m : Nat} (hm : m ≤ 1000) (hp : Sz m m p) (hq : Sz m m q) :
    Calls Tryz.prog 88 #[.string a, .string b] w fun e w' => e = .returned (.int .i64 (p.num * q.den - q.num * p.den).sign) ∧ Below w.heap.size w w' := by
  have HC := hide (rcrossed_any w a b p q ha hb hm hp hq)
  have c1 := cross_lt hp hq
  have c2 := cross_lt hq hp
  have T1 := hide (rtwo_of (x := p.num * q.den) (y := q.num * p.den) (k := m + m + 1) (l := m + m + 1) ⟨by omega, by omega⟩ ⟨by omega, by omega⟩ (pow_up c1 (by omega)) (pow_up c2 (by omega)))
  have Z0 := hide (T_size_pow (s := ⟨(T (q.num * p.den)).toArray⟩) (z := q.num * p.den) (k := m + m + 1) rfl (by omega) (pow_up c2 (by omega)))
  clear c1 c2 ha hb hp hq
  go_enter Tryz.func88, Tryz.ntmps88
  go_wp2_with fail
  refine HC.out.mono ?_
  rintro e w1 ⟨⟨g, c, rfl, hblk⟩, hb1⟩
  have k0 : w1.cell? ⟨g, 0, none⟩ = some (.string ⟨(T (p.num * q.den)).toArray⟩) := (Blk.cell hblk 0).trans rfl
  have k1 : w1.cell? ⟨g, 1, none⟩ = some (.string ⟨(T (q.num * p.den)).toArray⟩) := (Blk.cell hblk 1).trans rfl
  have HB1 := hide hb1
  clear hblk hb1 HC
  have SK : ∀ w', Below w1.heap.size w1 w' → Below w1.heap.size w1 w' ∧ w'.cell? ⟨g, 0, none⟩ = some (.string ⟨(T (p.num * q.den)).toArray⟩) ∧ w'.cell? ⟨g, 1, none⟩ = some (.string ⟨(T (q.num * p.den)).toArray⟩) := fun w' h => ⟨h, (bcell h _ _ (block_lt_of_cell k0)).trans k0, (bcell h _ _ (block_lt_of_cell k1)).trans k1⟩
  go_upto_region 2 with (fail)
  go_region_held3 (fun w' => Below w1.heap.size w1 w' ∧ w'.cell? ⟨g, 0, none⟩ = some (.string ⟨(T (p.num * q.den)).toArray⟩) ∧ w'.cell? ⟨g, 1, none⟩ = some (.string ⟨(T (q.num * p.den)).toArray⟩)) (first | exact SK _ (Below.refl _ _).drew | exact SK _ (Below.refl _ _) | exact SK _ (bel_next (by assumption) (by assumption) (Nat.le_refl _)))
    (first
      | (go_at_call 81; refine (rorder_any _ _ _ _ _ T1.out (by have := Z0.out; omega)).mono ?_; rintro e wx ⟨rfl, hbW⟩))
  go_wp2_with fail
  go_ret
  exact ⟨rfl, HB1.out.trans (Below.mono (And.left (by assumption)) HB1.out.size)⟩
end Go.Proofs.YtaccdkbofhlbkaaGreatDoor
