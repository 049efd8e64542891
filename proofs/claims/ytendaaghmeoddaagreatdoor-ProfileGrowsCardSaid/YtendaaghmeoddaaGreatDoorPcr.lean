/- metrolabref37.crossed: whether the ray from a point in the direction of X crosses a segment. profile.segment.crossed: whether the ray from a point in the direction of X crosses a segment. -/
import Derived.Test.YtendaaghmeoddaaGreatDoorPturn
import Derived.Test.YtendaaghmeoddaaGreatDoorPub2
namespace Go.Proofs.YtendaaghmeoddaaGreatDoor
open Go.RowKit MLab

theorem bel_ar {w0 w : World} (h : Below w0.heap.size w0 w) (o : Obj) : Below w0.heap.size w0 (w.alloc o) := h.alloc h.size o
theorem cb_ar {w0 w w1 : World} (h : Below w0.heap.size w0 w) (k : Below w.heap.size w w1) : Below w0.heap.size w0 w1 := h.trans (k.mono h.size)

set_option maxRecDepth 100000 in
set_option maxHeartbeats 8000000 in
theorem rpcr_any (w : World) (ax ay bx by_ px py : Int) (hax : Co ax) (hay : Co ay) (hbx : Co bx) (hby : Co by_) (hpx : Co px) (hpy : Co py) :
    Calls Tryz.prog 90 #[.agg #[.int .i64 ax, .int .i64 ay, .int .i64 bx, .int .i64 by_], .agg #[.int .i64 px, .int .i64 py]] w fun e w' => e = .returned (.bool (crs (ax, ay) (bx, by_) (px, py))) ∧ Below w.heap.size w w' := by
  obtain ⟨R, hR⟩ : ∃ R, crs (ax, ay) (bx, by_) (px, py) = R := ⟨_, rfl⟩
  rw [hR]
  have HR := hide hR
  clear hR
  go_enter Tryz.func90, Tryz.ntmps90
  go_wp2_with fail
  go_region
  all_goals
    by_cases h1 : by_ < ay
    · by_cases h2 : by_ ≤ py
      · by_cases h3 : py < ay
        · have hc : R = decide ((ay - by_) * (px - bx) < (ax - bx) * (py - by_)) := by
            rw [← HR.out]
            unfold crs
            rw [if_pos h1]
            unfold left3
            exact decide_eq_decide.2 ⟨fun u => by have := u.2.2; simp only at this; omega, fun u => ⟨h2, h3, by simp only; omega⟩⟩
          clear HR
          subst hc
          go_wp2_with fail
          refine (rleft_any _ bx by_ ax ay px py hbx hby hax hay hpx hpy).mono ?_
          rintro e w2 ⟨rfl, hb2⟩
          replace hb2 := cb_ar (w0 := w) (by (repeat first | exact Below.refl _ _ | refine bel_ar ?_ _ | refine Below.drew ?_ | refine Below.setCell ?_ (by show w.heap.size ≤ _; omega) _)) hb2
          go_wp2_with fail
          go_ret
          exact ⟨rfl, hb2⟩
        · have hc : R = false := by
            rw [← HR.out]
            unfold crs
            rw [if_pos h1]
            exact decide_eq_false (by rintro ⟨u1, u2, -⟩; simp only at u1 u2; omega)
          clear HR
          subst hc
          go_wp2_with fail
          go_ret
          refine ⟨rfl, ?_⟩
          (repeat first | exact Below.refl _ _ | refine bel_ar ?_ _ | refine Below.drew ?_ | refine Below.setCell ?_ (by show w.heap.size ≤ _; omega) _)
      · have hc : R = false := by
          rw [← HR.out]
          unfold crs
          rw [if_pos h1]
          exact decide_eq_false (by rintro ⟨u1, u2, -⟩; simp only at u1 u2; omega)
        clear HR
        subst hc
        go_wp2_with fail
        go_ret
        refine ⟨rfl, ?_⟩
        (repeat first | exact Below.refl _ _ | refine bel_ar ?_ _ | refine Below.drew ?_ | refine Below.setCell ?_ (by show w.heap.size ≤ _; omega) _)
    · by_cases h2 : ay ≤ py
      · by_cases h3 : py < by_
        · have hc : R = decide ((by_ - ay) * (px - ax) < (bx - ax) * (py - ay)) := by
            rw [← HR.out]
            unfold crs
            rw [if_neg h1]
            unfold left3
            exact decide_eq_decide.2 ⟨fun u => by have := u.2.2; simp only at this; omega, fun u => ⟨h2, h3, by simp only; omega⟩⟩
          clear HR
          subst hc
          go_wp2_with fail
          refine (rleft_any _ ax ay bx by_ px py hax hay hbx hby hpx hpy).mono ?_
          rintro e w2 ⟨rfl, hb2⟩
          replace hb2 := cb_ar (w0 := w) (by (repeat first | exact Below.refl _ _ | refine bel_ar ?_ _ | refine Below.drew ?_ | refine Below.setCell ?_ (by show w.heap.size ≤ _; omega) _)) hb2
          go_wp2_with fail
          go_ret
          exact ⟨rfl, hb2⟩
        · have hc : R = false := by
            rw [← HR.out]
            unfold crs
            rw [if_neg h1]
            exact decide_eq_false (by rintro ⟨u1, u2, -⟩; simp only at u1 u2; omega)
          clear HR
          subst hc
          go_wp2_with fail
          go_ret
          refine ⟨rfl, ?_⟩
          (repeat first | exact Below.refl _ _ | refine bel_ar ?_ _ | refine Below.drew ?_ | refine Below.setCell ?_ (by show w.heap.size ≤ _; omega) _)
      · have hc : R = false := by
          rw [← HR.out]
          unfold crs
          rw [if_neg h1]
          exact decide_eq_false (by rintro ⟨u1, u2, -⟩; simp only at u1 u2; omega)
        clear HR
        subst hc
        go_wp2_with fail
        go_ret
        refine ⟨rfl, ?_⟩
        (repeat first | exact Below.refl _ _ | refine bel_ar ?_ _ | refine Below.drew ?_ | refine Below.setCell ?_ (by show w.heap.size ≤ _; omega) _)
end Go.Proofs.YtendaaghmeoddaaGreatDoor

namespace Go.Proofs.YtendaaghmeoddaaGreatDoor
open Go.RowKit MLab

set_option maxRecDepth 100000 in
set_option maxHeartbeats 8000000 in
theorem pcr_any (w : World) (ax ay bx by_ px py : Int) (hax : Co ax) (hay : Co ay) (hbx : Co bx) (hby : Co by_) (hpx : Co px) (hpy : Co py) :
    Calls Tryz.prog 89 #[.agg #[.int .i64 ax, .int .i64 ay, .int .i64 bx, .int .i64 by_], .agg #[.int .i64 px, .int .i64 py]] w fun e w' => e = .returned (.bool (crs (ax, ay) (bx, by_) (px, py))) ∧ Below w.heap.size w w' := by
  obtain ⟨R, hR⟩ : ∃ R, crs (ax, ay) (bx, by_) (px, py) = R := ⟨_, rfl⟩
  rw [hR]
  have HR := hide hR
  clear hR
  go_enter Tryz.func89, Tryz.ntmps89
  go_wp2_with fail
  go_region
  all_goals
    by_cases h1 : by_ < ay
    · by_cases h2 : by_ ≤ py
      · by_cases h3 : py < ay
        · have hc : R = decide ((ay - by_) * (px - bx) < (ax - bx) * (py - by_)) := by
            rw [← HR.out]
            unfold crs
            rw [if_pos h1]
            unfold left3
            exact decide_eq_decide.2 ⟨fun u => by have := u.2.2; simp only at this; omega, fun u => ⟨h2, h3, by simp only; omega⟩⟩
          have d1 := co_dif hax hbx
          have d2 := co_dif hpy hby
          have d3 := co_dif hay hby
          have d4 := co_dif hpx hbx
          have i1 : IntKind.i64.wrap (ax - bx) = ax - bx := IntWalk.i64_in _ (by omega)
          have i2 : IntKind.i64.wrap (py - by_) = py - by_ := IntWalk.i64_in _ (by omega)
          have i3 : IntKind.i64.wrap (ay - by_) = ay - by_ := IntWalk.i64_in _ (by omega)
          have i4 : IntKind.i64.wrap (px - bx) = px - bx := IntWalk.i64_in _ (by omega)
          have m1 := mulB (M := 200000) (N := 200000) (co_dif hax hbx) (co_dif hpy hby)
          have m2 := mulB (M := 200000) (N := 200000) (co_dif hay hby) (co_dif hpx hbx)
          have j1 : IntKind.i64.wrap ((ax - bx) * (py - by_)) = (ax - bx) * (py - by_) := IntWalk.i64_in _ (by omega)
          have j2 : IntKind.i64.wrap ((ay - by_) * (px - bx)) = (ay - by_) * (px - bx) := IntWalk.i64_in _ (by omega)
          have j3 : IntKind.i64.wrap ((ax - bx) * (py - by_) - (ay - by_) * (px - bx)) = (ax - bx) * (py - by_) - (ay - by_) * (px - bx) := IntWalk.i64_in _ (by omega)
          clear m1 m2 d1 d2 d3 d4
          clear HR
          subst hc
          go_wp2_with fail
          go_ret
          refine ⟨rfl, ?_⟩
          (repeat first | exact Below.refl _ _ | refine bel_ar ?_ _ | refine Below.drew ?_ | refine Below.setCell ?_ (by show w.heap.size ≤ _; omega) _)
        · have hc : R = false := by
            rw [← HR.out]
            unfold crs
            rw [if_pos h1]
            exact decide_eq_false (by rintro ⟨u1, u2, -⟩; simp only at u1 u2; omega)
          clear HR
          subst hc
          go_wp2_with fail
          go_ret
          refine ⟨rfl, ?_⟩
          (repeat first | exact Below.refl _ _ | refine bel_ar ?_ _ | refine Below.drew ?_ | refine Below.setCell ?_ (by show w.heap.size ≤ _; omega) _)
      · have hc : R = false := by
          rw [← HR.out]
          unfold crs
          rw [if_pos h1]
          exact decide_eq_false (by rintro ⟨u1, u2, -⟩; simp only at u1 u2; omega)
        clear HR
        subst hc
        go_wp2_with fail
        go_ret
        refine ⟨rfl, ?_⟩
        (repeat first | exact Below.refl _ _ | refine bel_ar ?_ _ | refine Below.drew ?_ | refine Below.setCell ?_ (by show w.heap.size ≤ _; omega) _)
    · by_cases h2 : ay ≤ py
      · by_cases h3 : py < by_
        · have hc : R = decide ((by_ - ay) * (px - ax) < (bx - ax) * (py - ay)) := by
            rw [← HR.out]
            unfold crs
            rw [if_neg h1]
            unfold left3
            exact decide_eq_decide.2 ⟨fun u => by have := u.2.2; simp only at this; omega, fun u => ⟨h2, h3, by simp only; omega⟩⟩
          have d1 := co_dif hbx hax
          have d2 := co_dif hpy hay
          have d3 := co_dif hby hay
          have d4 := co_dif hpx hax
          have i1 : IntKind.i64.wrap (bx - ax) = bx - ax := IntWalk.i64_in _ (by omega)
          have i2 : IntKind.i64.wrap (py - ay) = py - ay := IntWalk.i64_in _ (by omega)
          have i3 : IntKind.i64.wrap (by_ - ay) = by_ - ay := IntWalk.i64_in _ (by omega)
          have i4 : IntKind.i64.wrap (px - ax) = px - ax := IntWalk.i64_in _ (by omega)
          have m1 := mulB (M := 200000) (N := 200000) (co_dif hbx hax) (co_dif hpy hay)
          have m2 := mulB (M := 200000) (N := 200000) (co_dif hby hay) (co_dif hpx hax)
          have j1 : IntKind.i64.wrap ((bx - ax) * (py - ay)) = (bx - ax) * (py - ay) := IntWalk.i64_in _ (by omega)
          have j2 : IntKind.i64.wrap ((by_ - ay) * (px - ax)) = (by_ - ay) * (px - ax) := IntWalk.i64_in _ (by omega)
          have j3 : IntKind.i64.wrap ((bx - ax) * (py - ay) - (by_ - ay) * (px - ax)) = (bx - ax) * (py - ay) - (by_ - ay) * (px - ax) := IntWalk.i64_in _ (by omega)
          clear m1 m2 d1 d2 d3 d4
          clear HR
          subst hc
          go_wp2_with fail
          go_ret
          refine ⟨rfl, ?_⟩
          (repeat first | exact Below.refl _ _ | refine bel_ar ?_ _ | refine Below.drew ?_ | refine Below.setCell ?_ (by show w.heap.size ≤ _; omega) _)
        · have hc : R = false := by
            rw [← HR.out]
            unfold crs
            rw [if_neg h1]
            exact decide_eq_false (by rintro ⟨u1, u2, -⟩; simp only at u1 u2; omega)
          clear HR
          subst hc
          go_wp2_with fail
          go_ret
          refine ⟨rfl, ?_⟩
          (repeat first | exact Below.refl _ _ | refine bel_ar ?_ _ | refine Below.drew ?_ | refine Below.setCell ?_ (by show w.heap.size ≤ _; omega) _)
      · have hc : R = false := by
          rw [← HR.out]
          unfold crs
          rw [if_neg h1]
          exact decide_eq_false (by rintro ⟨u1, u2, -⟩; simp only at u1 u2; omega)
        clear HR
        subst hc
        go_wp2_with fail
        go_ret
        refine ⟨rfl, ?_⟩
        (repeat first | exact Below.refl _ _ | refine bel_ar ?_ _ | refine Below.drew ?_ | refine Below.setCell ?_ (by show w.heap.size ≤ _; omega) _)
end Go.Proofs.YtendaaghmeoddaaGreatDoor
