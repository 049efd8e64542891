/- profile.order; vector.ToSegment at right points. -/
import Derived.Test.YtendaaghmeoddaaGreatDoorRcheck
import Derived.Test.YtendaaghmeoddaaGreatDoorRdist
import Derived.Test.YtendaaghmeoddaaGreatDoorPturn
namespace Go.Proofs.YtendaaghmeoddaaGreatDoor
open Go.RowKit MLab

theorem cmpV_sz {p q : Rat} (hp : Sz 30 30 p) (hq : Sz 30 30 q) : cmpV p q = .tuple #[.int .i64 (p.num * q.den - q.num * p.den).sign, .int .i64 0] := by
  unfold cmpV
  rw [if_pos ⟨big_of_pow (cross_lt hp hq) (by decide), big_of_pow (cross_lt hq hp) (by decide)⟩]

set_option maxRecDepth 100000 in
set_option maxHeartbeats 2000000 in
theorem porder_any (w : World) (a b : ByteArray) (p q : Rat) (ha : a.data.toList = RT p) (hb : b.data.toList = RT q) (hp : Sz 30 30 p) (hq : Sz 30 30 q) (hs : Std w) :
    Calls Tryz.prog 63 #[.string a, .string b] w fun e w' => e = .returned (.int .i64 (p.num * q.den - q.num * p.den).sign) ∧ Below w.heap.size w w' := by
  have HC := hide (rcompare_any w a b p q ha hb (hp.fit (by decide) (by decide)) (hq.fit (by decide) (by decide)) hs)
  rw [cmpV_sz hp hq] at HC
  obtain ⟨z, hz⟩ : ∃ z, (p.num * q.den - q.num * p.den).sign = z := ⟨_, rfl⟩
  rw [hz] at HC ⊢
  clear hz ha hb hp hq hs
  go_enter Tryz.func63, Tryz.ntmps63
  go_wp2_with fail
  refine HC.out.mono ?_
  rintro e w1 ⟨rfl, hb1⟩
  have HB1 := hide hb1
  clear hb1
  go_wp2_with fail
  go_ret
  exact ⟨rfl, HB1.out⟩

theorem pseg_any (w : World) (px py ax ay bx by_ : Int) (hs : Std w) (hpx : Co px) (hpy : Co py) (hax : Co ax) (hay : Co ay) (hbx : Co bx) (hby : Co by_) :
    Calls Tryz.prog 93 #[.agg #[.int .i64 px, .int .i64 py], .agg #[.int .i64 ax, .int .i64 ay], .agg #[.int .i64 bx, .int .i64 by_]] w fun e w' => e = .returned (.tuple #[.string ⟨(RT (segV px py ax ay bx by_)).toArray⟩, .int .i64 0]) ∧ Below w.heap.size w w' := by
  have h := ToSegment_any w px py ax ay bx by_ hs
  rw [segR_V px py ax ay bx by_ ⟨hpx, hpy, hax, hay, hbx, hby⟩] at h
  exact h

set_option maxRecDepth 100000 in
set_option maxHeartbeats 2000000 in
/-- A point that is not right has the error of ToSegment. -/
theorem pseg_far (w : World) (px py ax ay bx by_ : Int) (hs : Std w) (h : ¬ (Co px ∧ Co py)) :
    Calls Tryz.prog 93 #[.agg #[.int .i64 px, .int .i64 py], .agg #[.int .i64 ax, .int .i64 ay], .agg #[.int .i64 bx, .int .i64 by_]] w fun e w' => e = .returned (.tuple #[.string ⟨#[]⟩, .int .i64 2]) ∧ Below w.heap.size w w' := by
  have k := ToSegment_any w px py ax ay bx by_ hs
  have e : segR px py ax ay bx by_ = .error 2 := by
    unfold segR
    rw [if_neg (fun g => h ⟨g.1, g.2.1⟩)]
  rw [e] at k
  exact k
end Go.Proofs.YtendaaghmeoddaaGreatDoor
