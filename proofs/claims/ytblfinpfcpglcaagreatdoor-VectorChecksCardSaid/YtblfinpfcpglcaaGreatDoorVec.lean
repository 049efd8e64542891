/- vector: the small functions of points and spots. -/
import Derived.Test.YtblfinpfcpglcaaGreatDoorAll
import Derived.Test.YtblfinpfcpglcaaGreatDoorRatio
namespace Go.Proofs.YtblfinpfcpglcaaGreatDoor
open Go.RowKit MLab

/-- In the range of a normal. -/
abbrev Nf (x : Int) : Prop := -80000000000 ≤ x ∧ x ≤ 80000000000

set_option maxRecDepth 100000 in
set_option maxHeartbeats 1000000 in
theorem to_any (w : World) (ax ay bx by_ : Int) (h1 : Co ax) (h2 : Co ay) (h3 : Co bx) (h4 : Co by_) :
    Calls Tryz.prog 56 #[.agg #[.int .i64 ax, .int .i64 ay], .agg #[.int .i64 bx, .int .i64 by_]] w fun e w' => e = .returned (.agg #[.int .i64 (bx - ax), .int .i64 (by_ - ay)]) ∧ Below w.heap.size w w' := by
  go_enter Tryz.func56, Tryz.ntmps56
  go_wp2_with fail
  exact bodyPost_ret (v := .agg #[.int .i64 (bx - ax), .int .i64 (by_ - ay)]) (by simp [results, Tryz.results56, go_sem]) rfl ⟨rfl, allocs_below w [(.cells #[.int .i64 ax, .int .i64 ay] 23), (.cells #[.int .i64 bx, .int .i64 by_] 23), (.cells #[.int .i64 (bx - ax), .int .i64 (by_ - ay)] 88)]⟩

set_option maxRecDepth 100000 in
set_option maxHeartbeats 1000000 in
theorem adot_any (w : World) (ax ay bx by_ : Int) (h1 : Df ax) (h2 : Df ay) (h3 : Df bx) (h4 : Df by_) :
    Calls Tryz.prog 60 #[.agg #[.int .i64 ax, .int .i64 ay], .agg #[.int .i64 bx, .int .i64 by_]] w fun e w' => e = .returned (.int .i64 (ax * bx + ay * by_)) ∧ Below w.heap.size w w' := by
  obtain ⟨m0a, m0b⟩ := mulB (x := ax) (y := bx) (M := 200000) (N := 200000) (by omega) (by omega)
  obtain ⟨m1a, m1b⟩ := mulB (x := ay) (y := by_) (M := 200000) (N := 200000) (by omega) (by omega)
  go_enter Tryz.func60, Tryz.ntmps60
  go_wp2_with fail
  go_ret
  exact ⟨rfl, allocs_below w [(.cells #[.int .i64 ax, .int .i64 ay] 88), (.cells #[.int .i64 bx, .int .i64 by_] 88)]⟩

set_option maxRecDepth 100000 in
set_option maxHeartbeats 1000000 in
theorem aturn_any (w : World) (ax ay bx by_ : Int) (h1 : Df ax) (h2 : Df ay) (h3 : Df bx) (h4 : Df by_) :
    Calls Tryz.prog 91 #[.agg #[.int .i64 ax, .int .i64 ay], .agg #[.int .i64 bx, .int .i64 by_]] w fun e w' => e = .returned (.int .i64 (ax * by_ - ay * bx)) ∧ Below w.heap.size w w' := by
  obtain ⟨m0a, m0b⟩ := mulB (x := ax) (y := by_) (M := 200000) (N := 200000) (by omega) (by omega)
  obtain ⟨m1a, m1b⟩ := mulB (x := ay) (y := bx) (M := 200000) (N := 200000) (by omega) (by omega)
  go_enter Tryz.func91, Tryz.ntmps91
  go_wp2_with fail
  go_ret
  exact ⟨rfl, allocs_below w [(.cells #[.int .i64 ax, .int .i64 ay] 88), (.cells #[.int .i64 bx, .int .i64 by_] 88)]⟩

set_option maxRecDepth 100000 in
set_option maxHeartbeats 1000000 in
theorem rminus_any (w : World) (ax ay bx by_ : Int) (h1 : Co ax) (h2 : Co ay) (h3 : Co bx) (h4 : Co by_) :
    Calls Tryz.prog 111 #[.agg #[.int .i64 ax, .int .i64 ay], .agg #[.int .i64 bx, .int .i64 by_]] w fun e w' => e = .returned (.agg #[.int .i64 (ax - bx), .int .i64 (ay - by_)]) ∧ Below w.heap.size w w' := by
  go_enter Tryz.func111, Tryz.ntmps111
  go_wp2_with fail
  exact bodyPost_ret (v := .agg #[.int .i64 (ax - bx), .int .i64 (ay - by_)]) (by simp [results, Tryz.results111, go_sem]) rfl ⟨rfl, allocs_below w [(.cells #[.int .i64 ax, .int .i64 ay] 23), (.cells #[.int .i64 bx, .int .i64 by_] 23), (.cells #[.int .i64 (ax - bx), .int .i64 (ay - by_)] 23)]⟩

set_option maxRecDepth 100000 in
set_option maxHeartbeats 1000000 in
theorem rtimes_any (w : World) (ax ay bx by_ : Int) (h1 : Df ax) (h2 : Df ay) (h3 : Df bx) (h4 : Df by_) :
    Calls Tryz.prog 85 #[.agg #[.int .i64 ax, .int .i64 ay], .agg #[.int .i64 bx, .int .i64 by_]] w fun e w' => e = .returned (.int .i64 (ax * bx + ay * by_)) ∧ Below w.heap.size w w' := by
  obtain ⟨m0a, m0b⟩ := mulB (x := ax) (y := bx) (M := 200000) (N := 200000) (by omega) (by omega)
  obtain ⟨m1a, m1b⟩ := mulB (x := ay) (y := by_) (M := 200000) (N := 200000) (by omega) (by omega)
  go_enter Tryz.func85, Tryz.ntmps85
  go_wp2_with fail
  go_ret
  exact ⟨rfl, allocs_below w [(.cells #[.int .i64 ax, .int .i64 ay] 23), (.cells #[.int .i64 bx, .int .i64 by_] 23)]⟩

set_option maxRecDepth 100000 in
set_option maxHeartbeats 1000000 in
theorem rturn_any (w : World) (ax ay bx by_ : Int) (h1 : Df ax) (h2 : Df ay) (h3 : Df bx) (h4 : Df by_) :
    Calls Tryz.prog 127 #[.agg #[.int .i64 ax, .int .i64 ay], .agg #[.int .i64 bx, .int .i64 by_]] w fun e w' => e = .returned (.int .i64 (ax * by_ - ay * bx)) ∧ Below w.heap.size w w' := by
  obtain ⟨m0a, m0b⟩ := mulB (x := ax) (y := by_) (M := 200000) (N := 200000) (by omega) (by omega)
  obtain ⟨m1a, m1b⟩ := mulB (x := ay) (y := bx) (M := 200000) (N := 200000) (by omega) (by omega)
  go_enter Tryz.func127, Tryz.ntmps127
  go_wp2_with fail
  go_ret
  exact ⟨rfl, allocs_below w [(.cells #[.int .i64 ax, .int .i64 ay] 23), (.cells #[.int .i64 bx, .int .i64 by_] 23)]⟩

set_option maxRecDepth 100000 in
set_option maxHeartbeats 1000000 in
theorem reach_any (w : World) (ax ay az bx by_ bz : Int) (h1 : Co ax) (h2 : Co ay) (h3 : Co az) (h4 : Co bx) (h5 : Co by_) (h6 : Co bz) :
    Calls Tryz.prog 72 #[.agg #[.int .i64 ax, .int .i64 ay, .int .i64 az], .agg #[.int .i64 bx, .int .i64 by_, .int .i64 bz]] w fun e w' => e = .returned (.agg #[.int .i64 (bx - ax), .int .i64 (by_ - ay), .int .i64 (bz - az)]) ∧ Below w.heap.size w w' := by
  go_enter Tryz.func72, Tryz.ntmps72
  go_wp2_with fail
  exact bodyPost_ret (v := .agg #[.int .i64 (bx - ax), .int .i64 (by_ - ay), .int .i64 (bz - az)]) (by simp [results, Tryz.results72, go_sem]) rfl ⟨rfl, allocs_below w [(.cells #[.int .i64 ax, .int .i64 ay, .int .i64 az] 33), (.cells #[.int .i64 bx, .int .i64 by_, .int .i64 bz] 33), (.cells #[.int .i64 (bx - ax), .int .i64 (by_ - ay), .int .i64 (bz - az)] 99)]⟩

set_option maxRecDepth 100000 in
set_option maxHeartbeats 1000000 in
theorem bdot_any (w : World) (ax ay az bx by_ bz : Int) (h1 : Nf ax) (h2 : Nf ay) (h3 : Nf az) (h4 : Df bx) (h5 : Df by_) (h6 : Df bz) :
    Calls Tryz.prog 71 #[.agg #[.int .i64 ax, .int .i64 ay, .int .i64 az], .agg #[.int .i64 bx, .int .i64 by_, .int .i64 bz]] w fun e w' => e = .returned (.int .i64 (ax * bx + ay * by_ + az * bz)) ∧ Below w.heap.size w w' := by
  obtain ⟨m0a, m0b⟩ := mulB (x := ax) (y := bx) (M := 80000000000) (N := 200000) (by omega) (by omega)
  obtain ⟨m1a, m1b⟩ := mulB (x := ay) (y := by_) (M := 80000000000) (N := 200000) (by omega) (by omega)
  obtain ⟨m2a, m2b⟩ := mulB (x := az) (y := bz) (M := 80000000000) (N := 200000) (by omega) (by omega)
  go_enter Tryz.func71, Tryz.ntmps71
  go_wp2_with fail
  go_ret
  exact ⟨rfl, allocs_below w [(.cells #[.int .i64 ax, .int .i64 ay, .int .i64 az] 99), (.cells #[.int .i64 bx, .int .i64 by_, .int .i64 bz] 99)]⟩

set_option maxRecDepth 100000 in
set_option maxHeartbeats 1000000 in
theorem bturn_any (w : World) (ax ay az bx by_ bz : Int) (h1 : Df ax) (h2 : Df ay) (h3 : Df az) (h4 : Df bx) (h5 : Df by_) (h6 : Df bz) :
    Calls Tryz.prog 112 #[.agg #[.int .i64 ax, .int .i64 ay, .int .i64 az], .agg #[.int .i64 bx, .int .i64 by_, .int .i64 bz]] w fun e w' => e = .returned (.agg #[.int .i64 (ay * bz - az * by_), .int .i64 (az * bx - ax * bz), .int .i64 (ax * by_ - ay * bx)]) ∧ Below w.heap.size w w' := by
  obtain ⟨m0a, m0b⟩ := mulB (x := ay) (y := bz) (M := 200000) (N := 200000) (by omega) (by omega)
  obtain ⟨m1a, m1b⟩ := mulB (x := az) (y := by_) (M := 200000) (N := 200000) (by omega) (by omega)
  obtain ⟨m2a, m2b⟩ := mulB (x := az) (y := bx) (M := 200000) (N := 200000) (by omega) (by omega)
  obtain ⟨m3a, m3b⟩ := mulB (x := ax) (y := bz) (M := 200000) (N := 200000) (by omega) (by omega)
  obtain ⟨m4a, m4b⟩ := mulB (x := ax) (y := by_) (M := 200000) (N := 200000) (by omega) (by omega)
  obtain ⟨m5a, m5b⟩ := mulB (x := ay) (y := bx) (M := 200000) (N := 200000) (by omega) (by omega)
  go_enter Tryz.func112, Tryz.ntmps112
  go_wp2_with fail
  exact bodyPost_ret (v := .agg #[.int .i64 (ay * bz - az * by_), .int .i64 (az * bx - ax * bz), .int .i64 (ax * by_ - ay * bx)]) (by simp [results, Tryz.results112, go_sem]) rfl ⟨rfl, allocs_below w [(.cells #[.int .i64 ax, .int .i64 ay, .int .i64 az] 99), (.cells #[.int .i64 bx, .int .i64 by_, .int .i64 bz] 99), (.cells #[.int .i64 (ay * bz - az * by_), .int .i64 (az * bx - ax * bz), .int .i64 (ax * by_ - ay * bx)] 99)]⟩

set_option maxRecDepth 100000 in
set_option maxHeartbeats 1000000 in
theorem rless_any (w : World) (ax ay az bx by_ bz : Int) (h1 : Co ax) (h2 : Co ay) (h3 : Co az) (h4 : Co bx) (h5 : Co by_) (h6 : Co bz) :
    Calls Tryz.prog 115 #[.agg #[.int .i64 ax, .int .i64 ay, .int .i64 az], .agg #[.int .i64 bx, .int .i64 by_, .int .i64 bz]] w fun e w' => e = .returned (.agg #[.int .i64 (ax - bx), .int .i64 (ay - by_), .int .i64 (az - bz)]) ∧ Below w.heap.size w w' := by
  go_enter Tryz.func115, Tryz.ntmps115
  go_wp2_with fail
  exact bodyPost_ret (v := .agg #[.int .i64 (ax - bx), .int .i64 (ay - by_), .int .i64 (az - bz)]) (by simp [results, Tryz.results115, go_sem]) rfl ⟨rfl, allocs_below w [(.cells #[.int .i64 ax, .int .i64 ay, .int .i64 az] 33), (.cells #[.int .i64 bx, .int .i64 by_, .int .i64 bz] 33), (.cells #[.int .i64 (ax - bx), .int .i64 (ay - by_), .int .i64 (az - bz)] 33)]⟩

set_option maxRecDepth 100000 in
set_option maxHeartbeats 1000000 in
theorem rtimess_any (w : World) (ax ay az bx by_ bz : Int) (h1 : Nf ax) (h2 : Nf ay) (h3 : Nf az) (h4 : Df bx) (h5 : Df by_) (h6 : Df bz) :
    Calls Tryz.prog 116 #[.agg #[.int .i64 ax, .int .i64 ay, .int .i64 az], .agg #[.int .i64 bx, .int .i64 by_, .int .i64 bz]] w fun e w' => e = .returned (.int .i64 (ax * bx + ay * by_ + az * bz)) ∧ Below w.heap.size w w' := by
  obtain ⟨m0a, m0b⟩ := mulB (x := ax) (y := bx) (M := 80000000000) (N := 200000) (by omega) (by omega)
  obtain ⟨m1a, m1b⟩ := mulB (x := ay) (y := by_) (M := 80000000000) (N := 200000) (by omega) (by omega)
  obtain ⟨m2a, m2b⟩ := mulB (x := az) (y := bz) (M := 80000000000) (N := 200000) (by omega) (by omega)
  go_enter Tryz.func116, Tryz.ntmps116
  go_wp2_with fail
  go_ret
  exact ⟨rfl, allocs_below w [(.cells #[.int .i64 ax, .int .i64 ay, .int .i64 az] 33), (.cells #[.int .i64 bx, .int .i64 by_, .int .i64 bz] 33)]⟩

set_option maxRecDepth 100000 in
set_option maxHeartbeats 1000000 in
theorem rvector_any (w : World) (ax ay az bx by_ bz : Int) (h1 : Df ax) (h2 : Df ay) (h3 : Df az) (h4 : Df bx) (h5 : Df by_) (h6 : Df bz) :
    Calls Tryz.prog 114 #[.agg #[.int .i64 ax, .int .i64 ay, .int .i64 az], .agg #[.int .i64 bx, .int .i64 by_, .int .i64 bz]] w fun e w' => e = .returned (.agg #[.int .i64 (ay * bz - az * by_), .int .i64 (az * bx - ax * bz), .int .i64 (ax * by_ - ay * bx)]) ∧ Below w.heap.size w w' := by
  obtain ⟨m0a, m0b⟩ := mulB (x := ay) (y := bz) (M := 200000) (N := 200000) (by omega) (by omega)
  obtain ⟨m1a, m1b⟩ := mulB (x := az) (y := by_) (M := 200000) (N := 200000) (by omega) (by omega)
  obtain ⟨m2a, m2b⟩ := mulB (x := az) (y := bx) (M := 200000) (N := 200000) (by omega) (by omega)
  obtain ⟨m3a, m3b⟩ := mulB (x := ax) (y := bz) (M := 200000) (N := 200000) (by omega) (by omega)
  obtain ⟨m4a, m4b⟩ := mulB (x := ax) (y := by_) (M := 200000) (N := 200000) (by omega) (by omega)
  obtain ⟨m5a, m5b⟩ := mulB (x := ay) (y := bx) (M := 200000) (N := 200000) (by omega) (by omega)
  go_enter Tryz.func114, Tryz.ntmps114
  go_wp2_with fail
  exact bodyPost_ret (v := .agg #[.int .i64 (ay * bz - az * by_), .int .i64 (az * bx - ax * bz), .int .i64 (ax * by_ - ay * bx)]) (by simp [results, Tryz.results114, go_sem]) rfl ⟨rfl, allocs_below w [(.cells #[.int .i64 ax, .int .i64 ay, .int .i64 az] 33), (.cells #[.int .i64 bx, .int .i64 by_, .int .i64 bz] 33), (.cells #[.int .i64 (ay * bz - az * by_), .int .i64 (az * bx - ax * bz), .int .i64 (ax * by_ - ay * bx)] 33)]⟩

end Go.Proofs.YtblfinpfcpglcaaGreatDoor
