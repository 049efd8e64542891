/- VectorNearer: the plain law and the walk. -/
import Derived.Test.YtblfinpfcpglcaaGreatDoorNear
import Derived.Test.YtblfinpfcpglcaaGreatDoorRcmp
import Derived.Test.YtblfinpfcpglcaaGreatDoorRlow
namespace Go.Proofs.YtblfinpfcpglcaaGreatDoor
open Go.RowKit MLab

theorem big_30 {z : Int} (h : z.natAbs ≤ 1000000000000000000000000000000) : z.natAbs < Big := by
  have h2 : (10 : Nat) ^ 40 ≤ Big := pow_le_big (k := 40) (by omega)
  generalize Big = g at *
  exact Nat.lt_of_le_of_lt h (Nat.lt_of_lt_of_le (by decide) h2)

/-- A quotient in lowest terms: what was divided out. -/
theorem divInt_parts {n d : Int} (hd : 0 < d) : ∃ g : Int, 0 < g ∧ (Rat.divInt n d).num * g = n ∧ ((Rat.divInt n d).den : Int) * g = d := by
  obtain ⟨h1, h2⟩ := low_num (x := n) (y := d) (by omega)
  obtain ⟨m1, m2⟩ := low_mul n d
  rw [h1] at m1
  rw [h2] at m2
  refine ⟨lowG n d, ?_, m1, m2⟩
  have hp := (Rat.divInt n d).den_pos
  rcases Int.lt_trichotomy (lowG n d) 0 with h | h | h
  · have := Int.mul_neg_of_pos_of_neg (a := ((Rat.divInt n d).den : Int)) (by omega) h; omega
  · rw [h] at m2; omega
  · exact h
theorem divInt_small {n d : Int} (hd : 0 < d) : (Rat.divInt n d).num.natAbs ≤ n.natAbs ∧ (Rat.divInt n d).den ≤ d.natAbs := by
  obtain ⟨g, hg, h1, h2⟩ := divInt_parts (n := n) hd
  have a1 : (Rat.divInt n d).num.natAbs * g.natAbs = n.natAbs := by rw [← Int.natAbs_mul, h1]
  have a2 : (Rat.divInt n d).den * g.natAbs = d.natAbs := by
    have := congrArg Int.natAbs h2
    rw [Int.natAbs_mul] at this
    simpa using this
  have h3 : 1 ≤ g.natAbs := by omega
  have := Nat.mul_le_mul_left (Rat.divInt n d).num.natAbs h3
  have := Nat.mul_le_mul_left (Rat.divInt n d).den h3
  omega
theorem sign_mul_pos {a g : Int} (hg : 0 < g) : (a * g).sign = a.sign := by rw [Int.sign_mul, Int.sign_eq_one_of_pos hg, Int.mul_one]

theorem int_num (k : Int) : ((k : Rat)).num = k := by simp
theorem int_den (k : Int) : ((k : Rat)).den = 1 := by simp

theorem cmpV_div_int {n d k : Int} (hd : 0 < d) (hn : n.natAbs ≤ 1000000000000000000000000000000) (hk : (k * d).natAbs ≤ 1000000000000000000000000000000) : cmpV (Rat.divInt n d) (k : Rat) = .tuple #[.int .i64 (n - k * d).sign, .int .i64 0] := by
  obtain ⟨g, hg, h1, h2⟩ := divInt_parts (n := n) hd
  obtain ⟨s1, s2⟩ := divInt_small (n := n) hd
  rw [cmpV, int_num, int_den, if_pos, ← sign_mul_pos (a := _ - _) hg]
  · congr 4
    rw [Int.sub_mul, Int.mul_assoc k, h2, show (Rat.divInt n d).num * ((1 : Nat) : Int) = (Rat.divInt n d).num from Int.mul_one _, h1]
  · constructor
    · rw [show (Rat.divInt n d).num * ((1 : Nat) : Int) = (Rat.divInt n d).num from Int.mul_one _]
      exact big_30 (by omega)
    · refine big_30 (Nat.le_trans ?_ hk)
      rw [Int.natAbs_mul, Int.natAbs_mul]
      exact Nat.mul_le_mul_left _ (by simpa using s2)
theorem cmpV_int_int {j k : Int} (hj : j.natAbs ≤ 1000000000000000000000000000000) (hk : k.natAbs ≤ 1000000000000000000000000000000) : cmpV (j : Rat) (k : Rat) = .tuple #[.int .i64 (j - k).sign, .int .i64 0] := by
  rw [cmpV, int_num, int_den, int_num, int_den, show j * ((1 : Nat) : Int) = j from Int.mul_one _, show k * ((1 : Nat) : Int) = k from Int.mul_one _, if_pos ⟨big_30 hj, big_30 hk⟩]
theorem cmpV_same {q : Rat} (h : (q.num * q.den).natAbs < Big) : cmpV q q = .tuple #[.int .i64 0, .int .i64 0] := by
  rw [cmpV, if_pos ⟨h, h⟩, Int.sub_self]; rfl
theorem fit_int {k : Int} (h : k.natAbs ≤ 1000000000000000000000000000000) : Fit (k : Rat) := ⟨by rw [int_num]; exact big_30 h, by rw [int_den]; exact one_lt_big⟩
theorem fit_div {n d : Int} (hd : 0 < d) (hn : n.natAbs ≤ 1000000000000000000000000000000) (hk : d.natAbs ≤ 1000000000000000000000000000000) : Fit (Rat.divInt n d) := by
  obtain ⟨s1, s2⟩ := divInt_small (n := n) hd
  exact ⟨big_30 (by omega), Nat.lt_of_le_of_lt s2 (big_30 hk)⟩

/-- What VectorNearer says, with no program in sight. -/
structure Nearer (px py ax ay bx by_ : Int) (x y : Rat) (r f : Int) : Prop where
  lx : lineR px py ax ay bx by_ = .ok x
  ly : segR px py ax ay bx by_ = .ok y
  fx : Fit x
  fy : Fit y
  cx : cmpV x y = .tuple #[.int .i64 r, .int .i64 0]
  cy : cmpV y ((min ((px - ax) * (px - ax) + (py - ay) * (py - ay)) ((px - bx) * (px - bx) + (py - by_) * (py - by_)) : Int) : Rat) = .tuple #[.int .i64 f, .int .i64 0]
  r0 : r ≤ 0
  f0 : f ≤ 0
  last : (bx - ax) * (px - ax) + (by_ - ay) * (py - ay) < 0 ∨ (ax - bx) * (px - bx) + (ay - by_) * (py - by_) < 0 ∨ r = 0

theorem sgn_np {a : Int} (h : a ≤ 0) : a.sign ≤ 0 := by
  rcases Int.lt_trichotomy a 0 with h1 | h1 | h1
  · rw [Int.sign_eq_neg_one_of_neg h1]; decide
  · rw [h1]; decide
  · omega

set_option maxHeartbeats 1000000 in
theorem nearer_law (px py ax ay bx by_ : Int) (hs : Sm px py ∧ Sm ax ay ∧ Sm bx by_) (hne : ¬ (ax = bx ∧ ay = by_)) : ∃ x y r f, Nearer px py ax ay bx by_ x y r f := by
  suffices hN : ∃ x y r f, lineR px py ax ay bx by_ = .ok x ∧ segR px py ax ay bx by_ = .ok y ∧ Fit x ∧ Fit y ∧ cmpV x y = .tuple #[.int .i64 r, .int .i64 0] ∧ cmpV y ((min ((px - ax) * (px - ax) + (py - ay) * (py - ay)) ((px - bx) * (px - bx) + (py - by_) * (py - by_)) : Int) : Rat) = .tuple #[.int .i64 f, .int .i64 0] ∧ r ≤ 0 ∧ f ≤ 0 ∧ ((bx - ax) * (px - ax) + (by_ - ay) * (py - ay) < 0 ∨ (ax - bx) * (px - bx) + (ay - by_) * (py - by_) < 0 ∨ r = 0) by
    obtain ⟨x, y, r, f, h1, h2, h3, h4, h5, h6, h7, h8, h9⟩ := hN
    exact ⟨x, y, r, f, ⟨h1, h2, h3, h4, h5, h6, h7, h8, h9⟩⟩
  have hok : Co px ∧ Co py ∧ Co ax ∧ Co ay ∧ Co bx ∧ Co by_ := by omega
  have lx : lineR px py ax ay bx by_ = .ok (Rat.divInt (((bx - ax) * (py - ay) - (by_ - ay) * (px - ax)) * ((bx - ax) * (py - ay) - (by_ - ay) * (px - ax))) ((bx - ax) * (bx - ax) + (by_ - ay) * (by_ - ay))) := by rw [lineR, if_pos hok, if_neg hne]
  have hdv : 0 < (bx - ax) * (bx - ax) + (by_ - ay) * (by_ - ay) := by
    have s1 := sq_nn (bx - ax)
    have s2 := sq_nn (by_ - ay)
    rcases Int.lt_trichotomy (bx - ax) 0 with h | h | h
    · have := sq_pos (a := bx - ax) (by omega); omega
    · have h6 : by_ - ay ≠ 0 := fun h6 => hne ⟨by omega, by omega⟩
      have := sq_pos h6; omega
    · have := sq_pos (a := bx - ax) (by omega); omega
  have hV : (ax - bx) * (px - bx) + (ay - by_) * (py - by_) = -((bx - ax) * (px - bx) + (by_ - ay) * (py - by_)) := by grind
  have hAB : (bx - ax) * (px - ax) + (by_ - ay) * (py - ay) = (bx - ax) * (px - bx) + (by_ - ay) * (py - by_) + ((bx - ax) * (bx - ax) + (by_ - ay) * (by_ - ay)) := by grind
  have hFF : (px - ax) * (px - ax) + (py - ay) * (py - ay) = (px - bx) * (px - bx) + (py - by_) * (py - by_) + 2 * ((bx - ax) * (px - bx) + (by_ - ay) * (py - by_)) + ((bx - ax) * (bx - ax) + (by_ - ay) * (by_ - ay)) := by grind
  have hLA : ((bx - ax) * (py - ay) - (by_ - ay) * (px - ax)) * ((bx - ax) * (py - ay) - (by_ - ay) * (px - ax)) + ((bx - ax) * (px - ax) + (by_ - ay) * (py - ay)) * ((bx - ax) * (px - ax) + (by_ - ay) * (py - ay)) = ((px - ax) * (px - ax) + (py - ay) * (py - ay)) * ((bx - ax) * (bx - ax) + (by_ - ay) * (by_ - ay)) := by grind
  have hLB : ((bx - ax) * (py - ay) - (by_ - ay) * (px - ax)) * ((bx - ax) * (py - ay) - (by_ - ay) * (px - ax)) + ((bx - ax) * (px - bx) + (by_ - ay) * (py - by_)) * ((bx - ax) * (px - bx) + (by_ - ay) * (py - by_)) = ((px - bx) * (px - bx) + (py - by_) * (py - by_)) * ((bx - ax) * (bx - ax) + (by_ - ay) * (by_ - ay)) := by grind
  obtain ⟨m0a, m0b⟩ := mulB (x := bx - ax) (y := py - ay) (M := 18000) (N := 18000) (by omega) (by omega)
  obtain ⟨m1a, m1b⟩ := mulB (x := by_ - ay) (y := px - ax) (M := 18000) (N := 18000) (by omega) (by omega)
  obtain ⟨m2a, m2b⟩ := mulB (x := bx - ax) (y := bx - ax) (M := 18000) (N := 18000) (by omega) (by omega)
  obtain ⟨m3a, m3b⟩ := mulB (x := by_ - ay) (y := by_ - ay) (M := 18000) (N := 18000) (by omega) (by omega)
  obtain ⟨m4a, m4b⟩ := mulB (x := px - ax) (y := px - ax) (M := 18000) (N := 18000) (by omega) (by omega)
  obtain ⟨m5a, m5b⟩ := mulB (x := py - ay) (y := py - ay) (M := 18000) (N := 18000) (by omega) (by omega)
  obtain ⟨m6a, m6b⟩ := mulB (x := px - bx) (y := px - bx) (M := 18000) (N := 18000) (by omega) (by omega)
  obtain ⟨m7a, m7b⟩ := mulB (x := py - by_) (y := py - by_) (M := 18000) (N := 18000) (by omega) (by omega)
  have gA := sq_nn (px - ax)
  have gB := sq_nn (py - ay)
  have gC := sq_nn (px - bx)
  have gD := sq_nn (py - by_)
  have ly : segR px py ax ay bx by_ = .ok (if 0 < (bx - ax) * (px - bx) + (by_ - ay) * (py - by_) then (((px - bx) * (px - bx) + (py - by_) * (py - by_) : Int) : Rat) else if (bx - ax) * (px - ax) + (by_ - ay) * (py - ay) ≤ 0 then (((px - ax) * (px - ax) + (py - ay) * (py - ay) : Int) : Rat) else Rat.divInt (((bx - ax) * (py - ay) - (by_ - ay) * (px - ax)) * ((bx - ax) * (py - ay) - (by_ - ay) * (px - ax))) ((bx - ax) * (bx - ax) + (by_ - ay) * (by_ - ay))) := by
    rw [segR, if_pos hok, lx]
    by_cases h1 : 0 < (bx - ax) * (px - bx) + (by_ - ay) * (py - by_)
    · rw [if_pos h1, if_pos h1]
    · rw [if_neg h1, if_neg h1]
      by_cases h2 : (bx - ax) * (px - ax) + (by_ - ay) * (py - ay) ≤ 0
      · rw [if_pos h2, if_pos h2]
      · rw [if_neg h2, if_neg h2]
  generalize hcr : (bx - ax) * (py - ay) - (by_ - ay) * (px - ax) = cr at *
  generalize hd : (bx - ax) * (bx - ax) + (by_ - ay) * (by_ - ay) = d at *
  generalize hfa : (px - ax) * (px - ax) + (py - ay) * (py - ay) = fa at *
  generalize hfb : (px - bx) * (px - bx) + (py - by_) * (py - by_) = fb at *
  generalize hva : (bx - ax) * (px - ax) + (by_ - ay) * (py - ay) = va at *
  generalize hvb : (bx - ax) * (px - bx) + (by_ - ay) * (py - by_) = vb at *
  generalize hvv : (ax - bx) * (px - bx) + (ay - by_) * (py - by_) = vv at *
  have c1 : -648000000 ≤ cr ∧ cr ≤ 648000000 := by omega
  have c2 : d ≤ 648000000 := by omega
  have c3 : 0 ≤ fa ∧ fa ≤ 648000000 := by omega
  have c4 : 0 ≤ fb ∧ fb ≤ 648000000 := by omega
  have q1 := mulB (M := 648000000) (N := 648000000) c1 c1
  have q2 := mulB (x := fa) (y := d) (M := 648000000) (N := 648000000) (by omega) (by omega)
  have q3 := mulB (x := fb) (y := d) (M := 648000000) (N := 648000000) (by omega) (by omega)
  have s1 := sq_nn va
  have s2 := sq_nn vb
  clear hcr hd hfa hfb hva hvb hvv m0a m0b m1a m1b m2a m2b m3a m3b m4a m4b m5a m5b m6a m6b m7a m7b gA gB gC gD hok hs hne
  have fx : Fit (Rat.divInt (cr * cr) d) := fit_div hdv (by omega) (by omega)
  by_cases h1 : 0 < vb
  · rw [if_pos h1] at ly
    have hmin : min fa fb = fb := by omega
    exact ⟨_, _, _, _, lx, ly, fx, fit_int (by omega), cmpV_div_int hdv (by omega) (by omega), by rw [hmin]; exact cmpV_int_int (by omega) (by omega), sgn_np (by omega), sgn_np (by omega), .inr (.inl (by omega))⟩
  · rw [if_neg h1] at ly
    by_cases h2 : va ≤ 0
    · rw [if_pos h2] at ly
      have hmin : min fa fb = fa := by omega
      refine ⟨_, _, _, _, lx, ly, fx, fit_int (by omega), cmpV_div_int hdv (by omega) (by omega), by rw [hmin]; exact cmpV_int_int (by omega) (by omega), sgn_np (by omega), sgn_np (by omega), ?_⟩
      by_cases h3 : va < 0
      · exact .inl h3
      · right; right
        have h4 : va = 0 := by omega
        rw [h4] at hLA
        rw [show cr * cr - fa * d = 0 by omega]; rfl
    · rw [if_neg h2] at ly
      obtain ⟨s3, s4⟩ := divInt_small (n := cr * cr) hdv
      have hsame : ((Rat.divInt (cr * cr) d).num * (Rat.divInt (cr * cr) d).den).natAbs < Big := by
        refine big_30 ?_
        rw [Int.natAbs_mul]
        refine Nat.le_trans (Nat.mul_le_mul (Nat.le_trans s3 (show (cr * cr).natAbs ≤ 1000000000000000000 by omega)) (show ((Rat.divInt (cr * cr) d).den : Int).natAbs ≤ 1000000000 by omega)) (by decide)
      have hm : cr * cr - min fa fb * d ≤ 0 := by
        rcases (show min fa fb = fa ∨ min fa fb = fb by omega) with h | h <;> rw [h] <;> omega
      have hm2 : (min fa fb * d).natAbs ≤ 1000000000000000000000000000000 := by
        rcases (show min fa fb = fa ∨ min fa fb = fb by omega) with h | h <;> rw [h] <;> omega
      exact ⟨_, _, _, _, lx, ly, fx, fx, cmpV_same hsame, cmpV_div_int hdv (by omega) hm2, by decide, sgn_np hm, .inr (.inr rfl)⟩

set_option maxRecDepth 100000 in
set_option maxHeartbeats 2000000 in
theorem nearer_far (w : World) (px py ax ay bx by_ : Int) (hall : [(px, py), (ax, ay), (bx, by_)].all smP = false) (hs : Std w) : Calls Tryz.prog 10 #[.agg #[.int .i64 px, .int .i64 py], .agg #[.int .i64 ax, .int .i64 ay], .agg #[.int .i64 bx, .int .i64 by_]] w fun e w' => e = .returned (.bool true) ∧ Below w.heap.size w w' := by
  have HS := hide hs
  clear hs
  go_enter Tryz.func10, Tryz.ntmps10
  go_upto_region 1 with (fail)
  have hb0 : Below w.heap.size w (((w.alloc (.cells #[.int .i64 px, .int .i64 py] 23)).alloc (.cells #[.int .i64 ax, .int .i64 ay] 23)).alloc (.cells #[.int .i64 bx, .int .i64 by_] 23)) := allocs_below w [(.cells #[.int .i64 px, .int .i64 py] 23), (.cells #[.int .i64 ax, .int .i64 ay] 23), (.cells #[.int .i64 bx, .int .i64 by_] 23)]
  have s0 : w.heap.size + 3 ≤ (((w.alloc (.cells #[.int .i64 px, .int .i64 py] 23)).alloc (.cells #[.int .i64 ax, .int .i64 ay] 23)).alloc (.cells #[.int .i64 bx, .int .i64 by_] 23)).heap.size := Nat.le_of_eq (allocs_size w [(.cells #[.int .i64 px, .int .i64 py] 23), (.cells #[.int .i64 ax, .int .i64 ay] 23), (.cells #[.int .i64 bx, .int .i64 by_] 23)]).symm
  have kb0 : (((w.alloc (.cells #[.int .i64 px, .int .i64 py] 23)).alloc (.cells #[.int .i64 ax, .int .i64 ay] 23)).alloc (.cells #[.int .i64 bx, .int .i64 by_] 23)).heap[w.heap.size + 0]? = some (.cells #[.int .i64 px, .int .i64 py] 23) := allocs_at w [(.cells #[.int .i64 px, .int .i64 py] 23), (.cells #[.int .i64 ax, .int .i64 ay] 23), (.cells #[.int .i64 bx, .int .i64 by_] 23)] 0 rfl
  have kb1 : (((w.alloc (.cells #[.int .i64 px, .int .i64 py] 23)).alloc (.cells #[.int .i64 ax, .int .i64 ay] 23)).alloc (.cells #[.int .i64 bx, .int .i64 by_] 23)).heap[w.heap.size + 1]? = some (.cells #[.int .i64 ax, .int .i64 ay] 23) := allocs_at w [(.cells #[.int .i64 px, .int .i64 py] 23), (.cells #[.int .i64 ax, .int .i64 ay] 23), (.cells #[.int .i64 bx, .int .i64 by_] 23)] 1 rfl
  have kb2 : (((w.alloc (.cells #[.int .i64 px, .int .i64 py] 23)).alloc (.cells #[.int .i64 ax, .int .i64 ay] 23)).alloc (.cells #[.int .i64 bx, .int .i64 by_] 23)).heap[w.heap.size + 2]? = some (.cells #[.int .i64 bx, .int .i64 by_] 23) := allocs_at w [(.cells #[.int .i64 px, .int .i64 py] 23), (.cells #[.int .i64 ax, .int .i64 ay] 23), (.cells #[.int .i64 bx, .int .i64 by_] 23)] 2 rfl
  generalize (((w.alloc (.cells #[.int .i64 px, .int .i64 py] 23)).alloc (.cells #[.int .i64 ax, .int .i64 ay] 23)).alloc (.cells #[.int .i64 bx, .int .i64 by_] 23)) = w0 at *
  have k0_0 : w0.cell? ⟨w.heap.size, 0, none⟩ = some (.int .i64 px) := (Blk.cell kb0 0).trans rfl
  have k0_1 : w0.cell? ⟨w.heap.size, 1, none⟩ = some (.int .i64 py) := (Blk.cell kb0 1).trans rfl
  have k1_0 : w0.cell? ⟨w.heap.size + 1, 0, none⟩ = some (.int .i64 ax) := (Blk.cell kb1 0).trans rfl
  have k1_1 : w0.cell? ⟨w.heap.size + 1, 1, none⟩ = some (.int .i64 ay) := (Blk.cell kb1 1).trans rfl
  have k2_0 : w0.cell? ⟨w.heap.size + 1 + 1, 0, none⟩ = some (.int .i64 bx) := (Blk.cell kb2 0).trans rfl
  have k2_1 : w0.cell? ⟨w.heap.size + 1 + 1, 1, none⟩ = some (.int .i64 by_) := (Blk.cell kb2 1).trans rfl
  clear kb0 kb1 kb2
  have SK : ∀ w', Below w0.heap.size w0 w' → Below w0.heap.size w0 w' ∧ w'.cell? ⟨w.heap.size, 0, none⟩ = some (.int .i64 px) ∧ w'.cell? ⟨w.heap.size, 1, none⟩ = some (.int .i64 py) ∧ w'.cell? ⟨w.heap.size + 1, 0, none⟩ = some (.int .i64 ax) ∧ w'.cell? ⟨w.heap.size + 1, 1, none⟩ = some (.int .i64 ay) ∧ w'.cell? ⟨w.heap.size + 1 + 1, 0, none⟩ = some (.int .i64 bx) ∧ w'.cell? ⟨w.heap.size + 1 + 1, 1, none⟩ = some (.int .i64 by_) := fun w' h => ⟨h, (bcell h _ _ (by omega)).trans k0_0, (bcell h _ _ (by omega)).trans k0_1, (bcell h _ _ (by omega)).trans k1_0, (bcell h _ _ (by omega)).trans k1_1, (bcell h _ _ (by omega)).trans k2_0, (bcell h _ _ (by omega)).trans k2_1⟩
  go_wp2_with fail
  refine (near_any _ _ [(px, py), (ax, ay), (bx, by_)] (Pts3 w0 (px, py) (ax, ay) (bx, by_) _ _) (by simp)).mono ?_
  rw [hall]
  rintro e w1 ⟨rfl, hb1⟩
  have hb1' := (allocs_below w0 [_]).trans (hb1.mono (by simp))
  have hL1 : Below w0.heap.size w0 w1 := hb1'
  obtain ⟨-, c1_0, c1_1, c1_2, c1_3, c1_4, c1_5⟩ := SK _ hL1
  have HSa := hide (HS.out.below (hb0.trans (hL1.mono hb0.size)) (Nat.le_refl _))
  go_wp2_with fail
  refine (awake_any _ HSa.out).mono ?_
  rintro e w2 ⟨rfl, hbw2⟩
  have hL2 : Below w0.heap.size w0 w2 := hL1.trans (hbw2.mono hL1.size)
  obtain ⟨-, c2_0, c2_1, c2_2, c2_3, c2_4, c2_5⟩ := SK _ hL2
  go_wp2_with fail
  go_ret
  exact ⟨rfl, hb0.trans (hL2.mono hb0.size)⟩

set_option maxRecDepth 100000 in
set_option maxHeartbeats 2000000 in
theorem nearer_same (w : World) (px py ax ay bx by_ : Int) (hall : [(px, py), (ax, ay), (bx, by_)].all smP = true) (h1 : (ax = bx) = True) (h2 : (ay = by_) = True) (hs : Std w) : Calls Tryz.prog 10 #[.agg #[.int .i64 px, .int .i64 py], .agg #[.int .i64 ax, .int .i64 ay], .agg #[.int .i64 bx, .int .i64 by_]] w fun e w' => e = .returned (.bool true) ∧ Below w.heap.size w w' := by
  have HS := hide hs
  clear hs
  go_enter Tryz.func10, Tryz.ntmps10
  go_upto_region 1 with (fail)
  have hb0 : Below w.heap.size w (((w.alloc (.cells #[.int .i64 px, .int .i64 py] 23)).alloc (.cells #[.int .i64 ax, .int .i64 ay] 23)).alloc (.cells #[.int .i64 bx, .int .i64 by_] 23)) := allocs_below w [(.cells #[.int .i64 px, .int .i64 py] 23), (.cells #[.int .i64 ax, .int .i64 ay] 23), (.cells #[.int .i64 bx, .int .i64 by_] 23)]
  have s0 : w.heap.size + 3 ≤ (((w.alloc (.cells #[.int .i64 px, .int .i64 py] 23)).alloc (.cells #[.int .i64 ax, .int .i64 ay] 23)).alloc (.cells #[.int .i64 bx, .int .i64 by_] 23)).heap.size := Nat.le_of_eq (allocs_size w [(.cells #[.int .i64 px, .int .i64 py] 23), (.cells #[.int .i64 ax, .int .i64 ay] 23), (.cells #[.int .i64 bx, .int .i64 by_] 23)]).symm
  have kb0 : (((w.alloc (.cells #[.int .i64 px, .int .i64 py] 23)).alloc (.cells #[.int .i64 ax, .int .i64 ay] 23)).alloc (.cells #[.int .i64 bx, .int .i64 by_] 23)).heap[w.heap.size + 0]? = some (.cells #[.int .i64 px, .int .i64 py] 23) := allocs_at w [(.cells #[.int .i64 px, .int .i64 py] 23), (.cells #[.int .i64 ax, .int .i64 ay] 23), (.cells #[.int .i64 bx, .int .i64 by_] 23)] 0 rfl
  have kb1 : (((w.alloc (.cells #[.int .i64 px, .int .i64 py] 23)).alloc (.cells #[.int .i64 ax, .int .i64 ay] 23)).alloc (.cells #[.int .i64 bx, .int .i64 by_] 23)).heap[w.heap.size + 1]? = some (.cells #[.int .i64 ax, .int .i64 ay] 23) := allocs_at w [(.cells #[.int .i64 px, .int .i64 py] 23), (.cells #[.int .i64 ax, .int .i64 ay] 23), (.cells #[.int .i64 bx, .int .i64 by_] 23)] 1 rfl
  have kb2 : (((w.alloc (.cells #[.int .i64 px, .int .i64 py] 23)).alloc (.cells #[.int .i64 ax, .int .i64 ay] 23)).alloc (.cells #[.int .i64 bx, .int .i64 by_] 23)).heap[w.heap.size + 2]? = some (.cells #[.int .i64 bx, .int .i64 by_] 23) := allocs_at w [(.cells #[.int .i64 px, .int .i64 py] 23), (.cells #[.int .i64 ax, .int .i64 ay] 23), (.cells #[.int .i64 bx, .int .i64 by_] 23)] 2 rfl
  generalize (((w.alloc (.cells #[.int .i64 px, .int .i64 py] 23)).alloc (.cells #[.int .i64 ax, .int .i64 ay] 23)).alloc (.cells #[.int .i64 bx, .int .i64 by_] 23)) = w0 at *
  have k0_0 : w0.cell? ⟨w.heap.size, 0, none⟩ = some (.int .i64 px) := (Blk.cell kb0 0).trans rfl
  have k0_1 : w0.cell? ⟨w.heap.size, 1, none⟩ = some (.int .i64 py) := (Blk.cell kb0 1).trans rfl
  have k1_0 : w0.cell? ⟨w.heap.size + 1, 0, none⟩ = some (.int .i64 ax) := (Blk.cell kb1 0).trans rfl
  have k1_1 : w0.cell? ⟨w.heap.size + 1, 1, none⟩ = some (.int .i64 ay) := (Blk.cell kb1 1).trans rfl
  have k2_0 : w0.cell? ⟨w.heap.size + 1 + 1, 0, none⟩ = some (.int .i64 bx) := (Blk.cell kb2 0).trans rfl
  have k2_1 : w0.cell? ⟨w.heap.size + 1 + 1, 1, none⟩ = some (.int .i64 by_) := (Blk.cell kb2 1).trans rfl
  clear kb0 kb1 kb2
  have SK : ∀ w', Below w0.heap.size w0 w' → Below w0.heap.size w0 w' ∧ w'.cell? ⟨w.heap.size, 0, none⟩ = some (.int .i64 px) ∧ w'.cell? ⟨w.heap.size, 1, none⟩ = some (.int .i64 py) ∧ w'.cell? ⟨w.heap.size + 1, 0, none⟩ = some (.int .i64 ax) ∧ w'.cell? ⟨w.heap.size + 1, 1, none⟩ = some (.int .i64 ay) ∧ w'.cell? ⟨w.heap.size + 1 + 1, 0, none⟩ = some (.int .i64 bx) ∧ w'.cell? ⟨w.heap.size + 1 + 1, 1, none⟩ = some (.int .i64 by_) := fun w' h => ⟨h, (bcell h _ _ (by omega)).trans k0_0, (bcell h _ _ (by omega)).trans k0_1, (bcell h _ _ (by omega)).trans k1_0, (bcell h _ _ (by omega)).trans k1_1, (bcell h _ _ (by omega)).trans k2_0, (bcell h _ _ (by omega)).trans k2_1⟩
  go_wp2_with fail
  refine (near_any _ _ [(px, py), (ax, ay), (bx, by_)] (Pts3 w0 (px, py) (ax, ay) (bx, by_) _ _) (by simp)).mono ?_
  rw [hall]
  rintro e w1 ⟨rfl, hb1⟩
  have hb1' := (allocs_below w0 [_]).trans (hb1.mono (by simp))
  have hL1 : Below w0.heap.size w0 w1 := hb1'
  obtain ⟨-, c1_0, c1_1, c1_2, c1_3, c1_4, c1_5⟩ := SK _ hL1
  have HSa := hide (HS.out.below (hb0.trans (hL1.mono hb0.size)) (Nat.le_refl _))
  go_wp2_with fail
  refine (awake_any _ HSa.out).mono ?_
  rintro e w2 ⟨rfl, hbw2⟩
  have hL2 : Below w0.heap.size w0 w2 := hL1.trans (hbw2.mono hL1.size)
  obtain ⟨-, c2_0, c2_1, c2_2, c2_3, c2_4, c2_5⟩ := SK _ hL2
  go_wp2_with fail
  go_ret
  exact ⟨rfl, hb0.trans (hL2.mono hb0.size)⟩

set_option maxRecDepth 100000 in
set_option maxHeartbeats 8000000 in
theorem nearer_xu (w : World) (px py ax ay bx by_ : Int) (hall : [(px, py), (ax, ay), (bx, by_)].all smP = true) (_h1 : (ax = bx) = False) (x y : Rat) (r f : Int) (hN : Nearer px py ax ay bx by_ x y r f) (hsm : Sm px py ∧ Sm ax ay ∧ Sm bx by_) (hl : (bx - ax) * (px - ax) + (by_ - ay) * (py - ay) < 0) (hs : Std w) : Calls Tryz.prog 10 #[.agg #[.int .i64 px, .int .i64 py], .agg #[.int .i64 ax, .int .i64 ay], .agg #[.int .i64 bx, .int .i64 by_]] w fun e w' => e = .returned (.bool true) ∧ Below w.heap.size w w' := by
  have HS := hide hs
  clear hs
  have HN := hide hN
  have r0 := hN.r0
  have f0 := hN.f0
  have hok : Co px ∧ Co py ∧ Co ax ∧ Co ay ∧ Co bx ∧ Co by_ := by omega
  have OKp := hide hok
  clear hN hok
  have hX := hide (show RR (lineR px py ax ay bx by_) = .tuple #[.string ⟨(RT x).toArray⟩, .int .i64 0] by rw [HN.out.lx]; rfl)
  have hY := hide (show RR (segR px py ax ay bx by_) = .tuple #[.string ⟨(RT y).toArray⟩, .int .i64 0] by rw [HN.out.ly]; rfl)
  obtain ⟨m0a, m0b⟩ := mulB (x := px - ax) (y := px - ax) (M := 18000) (N := 18000) (by omega) (by omega)
  obtain ⟨m1a, m1b⟩ := mulB (x := py - ay) (y := py - ay) (M := 18000) (N := 18000) (by omega) (by omega)
  obtain ⟨m2a, m2b⟩ := mulB (x := px - bx) (y := px - bx) (M := 18000) (N := 18000) (by omega) (by omega)
  obtain ⟨m3a, m3b⟩ := mulB (x := py - by_) (y := py - by_) (M := 18000) (N := 18000) (by omega) (by omega)
  have Q0 := hide (p := -9223372036854775808 ≤ min ((px - ax) * (px - ax) + (py - ay) * (py - ay)) ((px - bx) * (px - bx) + (py - by_) * (py - by_))) (by omega)
  have Q1 := hide (p := min ((px - ax) * (px - ax) + (py - ay) * (py - ay)) ((px - bx) * (px - bx) + (py - by_) * (py - by_)) ≤ 9223372036854775807) (by omega)
  have Q2 := hide (fit_int (k := min ((px - ax) * (px - ax) + (py - ay) * (py - ay)) ((px - bx) * (px - bx) + (py - by_) * (py - by_))) (by omega))
  clear m0a m0b m1a m1b m2a m2b m3a m3b
  have R3 := hide (show R2 ((ax - px) * (ax - px) + (ay - py) * (ay - py)) (Co px ∧ Co py ∧ Co ax ∧ Co ay) = .tuple #[.int .i64 ((ax - px) * (ax - px) + (ay - py) * (ay - py)), .int .i64 0] from R2_pos _ (by omega))
  have R4 := hide (show R2 ((bx - px) * (bx - px) + (by_ - py) * (by_ - py)) (Co px ∧ Co py ∧ Co bx ∧ Co by_) = .tuple #[.int .i64 ((bx - px) * (bx - px) + (by_ - py) * (by_ - py)), .int .i64 0] from R2_pos _ (by omega))
  have e3 : (ax - px) * (ax - px) + (ay - py) * (ay - py) = (px - ax) * (px - ax) + (py - ay) * (py - ay) := by grind
  have e4 : (bx - px) * (bx - px) + (by_ - py) * (by_ - py) = (px - bx) * (px - bx) + (py - by_) * (py - by_) := by grind
  rw [e3] at R3
  rw [e4] at R4
  have E3 := hide e3
  have E4 := hide e4
  clear e3 e4
  have R5 := hide (show R2 ((bx - ax) * (px - ax) + (by_ - ay) * (py - ay)) (Co (bx - ax) ∧ Co (by_ - ay) ∧ Co (px - ax) ∧ Co (py - ay)) = .tuple #[.int .i64 ((bx - ax) * (px - ax) + (by_ - ay) * (py - ay)), .int .i64 0] from R2_pos _ (by omega))
  have R6 := hide (show R2 ((ax - bx) * (px - bx) + (ay - by_) * (py - by_)) (Co (ax - bx) ∧ Co (ay - by_) ∧ Co (px - bx) ∧ Co (py - by_)) = .tuple #[.int .i64 ((ax - bx) * (px - bx) + (ay - by_) * (py - by_)), .int .i64 0] from R2_pos _ (by omega))
  go_enter Tryz.func10, Tryz.ntmps10
  go_upto_region 1 with (fail)
  have hb0 : Below w.heap.size w (((w.alloc (.cells #[.int .i64 px, .int .i64 py] 23)).alloc (.cells #[.int .i64 ax, .int .i64 ay] 23)).alloc (.cells #[.int .i64 bx, .int .i64 by_] 23)) := allocs_below w [(.cells #[.int .i64 px, .int .i64 py] 23), (.cells #[.int .i64 ax, .int .i64 ay] 23), (.cells #[.int .i64 bx, .int .i64 by_] 23)]
  have s0 : w.heap.size + 3 ≤ (((w.alloc (.cells #[.int .i64 px, .int .i64 py] 23)).alloc (.cells #[.int .i64 ax, .int .i64 ay] 23)).alloc (.cells #[.int .i64 bx, .int .i64 by_] 23)).heap.size := Nat.le_of_eq (allocs_size w [(.cells #[.int .i64 px, .int .i64 py] 23), (.cells #[.int .i64 ax, .int .i64 ay] 23), (.cells #[.int .i64 bx, .int .i64 by_] 23)]).symm
  have kb0 : (((w.alloc (.cells #[.int .i64 px, .int .i64 py] 23)).alloc (.cells #[.int .i64 ax, .int .i64 ay] 23)).alloc (.cells #[.int .i64 bx, .int .i64 by_] 23)).heap[w.heap.size + 0]? = some (.cells #[.int .i64 px, .int .i64 py] 23) := allocs_at w [(.cells #[.int .i64 px, .int .i64 py] 23), (.cells #[.int .i64 ax, .int .i64 ay] 23), (.cells #[.int .i64 bx, .int .i64 by_] 23)] 0 rfl
  have kb1 : (((w.alloc (.cells #[.int .i64 px, .int .i64 py] 23)).alloc (.cells #[.int .i64 ax, .int .i64 ay] 23)).alloc (.cells #[.int .i64 bx, .int .i64 by_] 23)).heap[w.heap.size + 1]? = some (.cells #[.int .i64 ax, .int .i64 ay] 23) := allocs_at w [(.cells #[.int .i64 px, .int .i64 py] 23), (.cells #[.int .i64 ax, .int .i64 ay] 23), (.cells #[.int .i64 bx, .int .i64 by_] 23)] 1 rfl
  have kb2 : (((w.alloc (.cells #[.int .i64 px, .int .i64 py] 23)).alloc (.cells #[.int .i64 ax, .int .i64 ay] 23)).alloc (.cells #[.int .i64 bx, .int .i64 by_] 23)).heap[w.heap.size + 2]? = some (.cells #[.int .i64 bx, .int .i64 by_] 23) := allocs_at w [(.cells #[.int .i64 px, .int .i64 py] 23), (.cells #[.int .i64 ax, .int .i64 ay] 23), (.cells #[.int .i64 bx, .int .i64 by_] 23)] 2 rfl
  generalize (((w.alloc (.cells #[.int .i64 px, .int .i64 py] 23)).alloc (.cells #[.int .i64 ax, .int .i64 ay] 23)).alloc (.cells #[.int .i64 bx, .int .i64 by_] 23)) = w0 at *
  have k0_0 : w0.cell? ⟨w.heap.size, 0, none⟩ = some (.int .i64 px) := (Blk.cell kb0 0).trans rfl
  have k0_1 : w0.cell? ⟨w.heap.size, 1, none⟩ = some (.int .i64 py) := (Blk.cell kb0 1).trans rfl
  have k1_0 : w0.cell? ⟨w.heap.size + 1, 0, none⟩ = some (.int .i64 ax) := (Blk.cell kb1 0).trans rfl
  have k1_1 : w0.cell? ⟨w.heap.size + 1, 1, none⟩ = some (.int .i64 ay) := (Blk.cell kb1 1).trans rfl
  have k2_0 : w0.cell? ⟨w.heap.size + 1 + 1, 0, none⟩ = some (.int .i64 bx) := (Blk.cell kb2 0).trans rfl
  have k2_1 : w0.cell? ⟨w.heap.size + 1 + 1, 1, none⟩ = some (.int .i64 by_) := (Blk.cell kb2 1).trans rfl
  clear kb0 kb1 kb2
  have SK : ∀ w', Below w0.heap.size w0 w' → Below w0.heap.size w0 w' ∧ w'.cell? ⟨w.heap.size, 0, none⟩ = some (.int .i64 px) ∧ w'.cell? ⟨w.heap.size, 1, none⟩ = some (.int .i64 py) ∧ w'.cell? ⟨w.heap.size + 1, 0, none⟩ = some (.int .i64 ax) ∧ w'.cell? ⟨w.heap.size + 1, 1, none⟩ = some (.int .i64 ay) ∧ w'.cell? ⟨w.heap.size + 1 + 1, 0, none⟩ = some (.int .i64 bx) ∧ w'.cell? ⟨w.heap.size + 1 + 1, 1, none⟩ = some (.int .i64 by_) := fun w' h => ⟨h, (bcell h _ _ (by omega)).trans k0_0, (bcell h _ _ (by omega)).trans k0_1, (bcell h _ _ (by omega)).trans k1_0, (bcell h _ _ (by omega)).trans k1_1, (bcell h _ _ (by omega)).trans k2_0, (bcell h _ _ (by omega)).trans k2_1⟩
  go_wp2_with fail
  refine (near_any _ _ [(px, py), (ax, ay), (bx, by_)] (Pts3 w0 (px, py) (ax, ay) (bx, by_) _ _) (by simp)).mono ?_
  rw [hall]
  rintro e w1 ⟨rfl, hb1⟩
  have hb1' := (allocs_below w0 [_]).trans (hb1.mono (by simp))
  have hL1 : Below w0.heap.size w0 w1 := hb1'
  obtain ⟨-, c1_0, c1_1, c1_2, c1_3, c1_4, c1_5⟩ := SK _ hL1
  have HS1 := hide (HS.out.below (hb0.trans (hL1.mono hb0.size)) (Nat.le_refl _))
  go_wp2_with fail
  refine (ToLine_any _ px py ax ay bx by_ HS1.out).mono ?_
  rw [hX.out]
  rintro e w2 ⟨rfl, hbw2⟩
  have hL2 : Below w0.heap.size w0 w2 := hL1.trans (hbw2.mono hL1.size)
  obtain ⟨-, c2_0, c2_1, c2_2, c2_3, c2_4, c2_5⟩ := SK _ hL2
  have HS2 := hide (HS.out.below (hb0.trans (hL2.mono hb0.size)) (Nat.le_refl _))
  go_wp2_with fail
  refine (ToSegment_any _ px py ax ay bx by_ HS2.out).mono ?_
  rw [hY.out]
  rintro e w3 ⟨rfl, hbw3⟩
  have hL3 : Below w0.heap.size w0 w3 := hL2.trans (hbw3.mono hL2.size)
  obtain ⟨-, c3_0, c3_1, c3_2, c3_3, c3_4, c3_5⟩ := SK _ hL3
  go_wp2_with fail
  refine (Square_any _ px py ax ay).mono ?_
  rw [E3.out, R3.out]
  rintro e w4 ⟨rfl, hbw4⟩
  have hL4 : Below w0.heap.size w0 w4 := hL3.trans (hbw4.mono hL3.size)
  obtain ⟨-, c4_0, c4_1, c4_2, c4_3, c4_4, c4_5⟩ := SK _ hL4
  go_wp2_with fail
  refine (Square_any _ px py bx by_).mono ?_
  rw [E4.out, R4.out]
  rintro e w5 ⟨rfl, hbw5⟩
  have hL5 : Below w0.heap.size w0 w5 := hL4.trans (hbw5.mono hL4.size)
  obtain ⟨-, c5_0, c5_1, c5_2, c5_3, c5_4, c5_5⟩ := SK _ hL5
  go_upto_region 7 with (fail)
  have Ww60 : IntKind.i64.wrap (bx - ax) = bx - ax := IntWalk.i64_in _ ⟨by omega, by omega⟩
  have Ww61 : IntKind.i64.wrap (by_ - ay) = by_ - ay := IntWalk.i64_in _ ⟨by omega, by omega⟩
  have Ww62 : IntKind.i64.wrap (px - ax) = px - ax := IntWalk.i64_in _ ⟨by omega, by omega⟩
  have Ww63 : IntKind.i64.wrap (py - ay) = py - ay := IntWalk.i64_in _ ⟨by omega, by omega⟩
  have Ww70 : IntKind.i64.wrap (ax - bx) = ax - bx := IntWalk.i64_in _ ⟨by omega, by omega⟩
  have Ww71 : IntKind.i64.wrap (ay - by_) = ay - by_ := IntWalk.i64_in _ ⟨by omega, by omega⟩
  have Ww72 : IntKind.i64.wrap (px - bx) = px - bx := IntWalk.i64_in _ ⟨by omega, by omega⟩
  have Ww73 : IntKind.i64.wrap (py - by_) = py - by_ := IntWalk.i64_in _ ⟨by omega, by omega⟩
  have q5 : w0.heap.size ≤ w5.heap.size := hL5.size
  have SQ5 : ∀ w', Below w5.heap.size w5 w' → Below w5.heap.size w5 w' ∧ w'.cell? ⟨w.heap.size, 0, none⟩ = some (.int .i64 px) ∧ w'.cell? ⟨w.heap.size, 1, none⟩ = some (.int .i64 py) ∧ w'.cell? ⟨w.heap.size + 1, 0, none⟩ = some (.int .i64 ax) ∧ w'.cell? ⟨w.heap.size + 1, 1, none⟩ = some (.int .i64 ay) ∧ w'.cell? ⟨w.heap.size + 1 + 1, 0, none⟩ = some (.int .i64 bx) ∧ w'.cell? ⟨w.heap.size + 1 + 1, 1, none⟩ = some (.int .i64 by_) := fun w' h => ⟨h, (bcell h _ _ (block_lt_of_cell c5_0)).trans c5_0, (bcell h _ _ (block_lt_of_cell c5_1)).trans c5_1, (bcell h _ _ (block_lt_of_cell c5_2)).trans c5_2, (bcell h _ _ (block_lt_of_cell c5_3)).trans c5_3, (bcell h _ _ (block_lt_of_cell c5_4)).trans c5_4, (bcell h _ _ (block_lt_of_cell c5_5)).trans c5_5⟩
  go_region_held3 (fun w' => Below w5.heap.size w5 w' ∧ w'.cell? ⟨w.heap.size, 0, none⟩ = some (.int .i64 px) ∧ w'.cell? ⟨w.heap.size, 1, none⟩ = some (.int .i64 py) ∧ w'.cell? ⟨w.heap.size + 1, 0, none⟩ = some (.int .i64 ax) ∧ w'.cell? ⟨w.heap.size + 1, 1, none⟩ = some (.int .i64 ay) ∧ w'.cell? ⟨w.heap.size + 1 + 1, 0, none⟩ = some (.int .i64 bx) ∧ w'.cell? ⟨w.heap.size + 1 + 1, 1, none⟩ = some (.int .i64 by_)) (first | exact SQ5 _ (Below.refl _ _).drew | exact SQ5 _ (bel_next (by assumption) (by assumption) (Nat.le_refl _)))
    (first
      | (go_at_call_of 28 (.int .i64 (bx - ax) : Value); refine (at_any _ (bx - ax) (by_ - ay)).mono ?_; rintro e w6 ⟨rfl, hbW⟩)
      | (go_at_call_of 28 (.int .i64 (px - ax) : Value); refine (at_any _ (px - ax) (py - ay)).mono ?_; rintro e w6 ⟨rfl, hbW⟩)
      | (go_at_call 34; refine (Dot_any _ (bx - ax) (by_ - ay) (px - ax) (py - ay)).mono ?_; rw [R5.out]; rintro e w6 ⟨rfl, hbW⟩))
  obtain ⟨hH6, c6_0, c6_1, c6_2, c6_3, c6_4, c6_5⟩ : Below w5.heap.size w5 w6 ∧ w6.cell? ⟨w.heap.size, 0, none⟩ = some (.int .i64 px) ∧ w6.cell? ⟨w.heap.size, 1, none⟩ = some (.int .i64 py) ∧ w6.cell? ⟨w.heap.size + 1, 0, none⟩ = some (.int .i64 ax) ∧ w6.cell? ⟨w.heap.size + 1, 1, none⟩ = some (.int .i64 ay) ∧ w6.cell? ⟨w.heap.size + 1 + 1, 0, none⟩ = some (.int .i64 bx) ∧ w6.cell? ⟨w.heap.size + 1 + 1, 1, none⟩ = some (.int .i64 by_) := by assumption
  have hL6 : Below w0.heap.size w0 w6 := hL5.trans (hH6.mono hL5.size)
  clear Ww60 Ww61 Ww62 Ww63
  go_upto_region 8 with (fail)
  have q6 : w0.heap.size ≤ w6.heap.size := hL6.size
  have SQ6 : ∀ w', Below w6.heap.size w6 w' → Below w6.heap.size w6 w' ∧ w'.cell? ⟨w.heap.size, 0, none⟩ = some (.int .i64 px) ∧ w'.cell? ⟨w.heap.size, 1, none⟩ = some (.int .i64 py) ∧ w'.cell? ⟨w.heap.size + 1, 0, none⟩ = some (.int .i64 ax) ∧ w'.cell? ⟨w.heap.size + 1, 1, none⟩ = some (.int .i64 ay) ∧ w'.cell? ⟨w.heap.size + 1 + 1, 0, none⟩ = some (.int .i64 bx) ∧ w'.cell? ⟨w.heap.size + 1 + 1, 1, none⟩ = some (.int .i64 by_) := fun w' h => ⟨h, (bcell h _ _ (block_lt_of_cell c6_0)).trans c6_0, (bcell h _ _ (block_lt_of_cell c6_1)).trans c6_1, (bcell h _ _ (block_lt_of_cell c6_2)).trans c6_2, (bcell h _ _ (block_lt_of_cell c6_3)).trans c6_3, (bcell h _ _ (block_lt_of_cell c6_4)).trans c6_4, (bcell h _ _ (block_lt_of_cell c6_5)).trans c6_5⟩
  go_region_held3 (fun w' => Below w6.heap.size w6 w' ∧ w'.cell? ⟨w.heap.size, 0, none⟩ = some (.int .i64 px) ∧ w'.cell? ⟨w.heap.size, 1, none⟩ = some (.int .i64 py) ∧ w'.cell? ⟨w.heap.size + 1, 0, none⟩ = some (.int .i64 ax) ∧ w'.cell? ⟨w.heap.size + 1, 1, none⟩ = some (.int .i64 ay) ∧ w'.cell? ⟨w.heap.size + 1 + 1, 0, none⟩ = some (.int .i64 bx) ∧ w'.cell? ⟨w.heap.size + 1 + 1, 1, none⟩ = some (.int .i64 by_)) (first | exact SQ6 _ (Below.refl _ _).drew | exact SQ6 _ (bel_next (by assumption) (by assumption) (Nat.le_refl _)))
    (first
      | (go_at_call_of 28 (.int .i64 (ax - bx) : Value); refine (at_any _ (ax - bx) (ay - by_)).mono ?_; rintro e w7 ⟨rfl, hbW⟩)
      | (go_at_call_of 28 (.int .i64 (px - bx) : Value); refine (at_any _ (px - bx) (py - by_)).mono ?_; rintro e w7 ⟨rfl, hbW⟩)
      | (go_at_call 34; refine (Dot_any _ (ax - bx) (ay - by_) (px - bx) (py - by_)).mono ?_; rw [R6.out]; rintro e w7 ⟨rfl, hbW⟩))
  obtain ⟨hH7, c7_0, c7_1, c7_2, c7_3, c7_4, c7_5⟩ : Below w6.heap.size w6 w7 ∧ w7.cell? ⟨w.heap.size, 0, none⟩ = some (.int .i64 px) ∧ w7.cell? ⟨w.heap.size, 1, none⟩ = some (.int .i64 py) ∧ w7.cell? ⟨w.heap.size + 1, 0, none⟩ = some (.int .i64 ax) ∧ w7.cell? ⟨w.heap.size + 1, 1, none⟩ = some (.int .i64 ay) ∧ w7.cell? ⟨w.heap.size + 1 + 1, 0, none⟩ = some (.int .i64 bx) ∧ w7.cell? ⟨w.heap.size + 1 + 1, 1, none⟩ = some (.int .i64 by_) := by assumption
  have hL7 : Below w0.heap.size w0 w7 := hL6.trans (hH7.mono hL6.size)
  clear Ww70 Ww71 Ww72 Ww73
  have HS3 := hide (HS.out.below (hb0.trans (hL7.mono hb0.size)) (Nat.le_refl _))
  go_wp2_with fail
  refine (rcompare_any _ _ _ x y rfl rfl HN.out.fx HN.out.fy HS3.out).mono ?_
  rw [HN.out.cx]
  rintro e w8 ⟨rfl, hbw8⟩
  have hL8 : Below w0.heap.size w0 w8 := hL7.trans (hbw8.mono hL7.size)
  obtain ⟨-, c8_0, c8_1, c8_2, c8_3, c8_4, c8_5⟩ := SK _ hL8
  go_wp2_with fail
  refine (r2whole_any (min ((px - ax) * (px - ax) + (py - ay) * (py - ay)) ((px - bx) * (px - bx) + (py - by_) * (py - by_))) Q0.out Q1.out _).mono ?_
  rintro e w9 ⟨rfl, hbw9⟩
  have hL9 : Below w0.heap.size w0 w9 := hL8.trans (hbw9.mono hL8.size)
  obtain ⟨-, c9_0, c9_1, c9_2, c9_3, c9_4, c9_5⟩ := SK _ hL9
  have HS4 := hide (HS.out.below (hb0.trans (hL9.mono hb0.size)) (Nat.le_refl _))
  go_wp2_with fail
  refine (rcompare_any _ _ _ y ((min ((px - ax) * (px - ax) + (py - ay) * (py - ay)) ((px - bx) * (px - bx) + (py - by_) * (py - by_)) : Int) : Rat) rfl rfl HN.out.fy Q2.out HS4.out).mono ?_
  rw [HN.out.cy]
  rintro e w10 ⟨rfl, hbw10⟩
  have hL10 : Below w0.heap.size w0 w10 := hL9.trans (hbw10.mono hL9.size)
  obtain ⟨-, c10_0, c10_1, c10_2, c10_3, c10_4, c10_5⟩ := SK _ hL10
  have HSa := hide (HS.out.below (hb0.trans (hL10.mono hb0.size)) (Nat.le_refl _))
  go_wp2_with fail
  refine (awake_any _ HSa.out).mono ?_
  rintro e w11 ⟨rfl, hbw11⟩
  have hL11 : Below w0.heap.size w0 w11 := hL10.trans (hbw11.mono hL10.size)
  obtain ⟨-, c11_0, c11_1, c11_2, c11_3, c11_4, c11_5⟩ := SK _ hL11
  go_wp2_with fail
  go_ret
  exact ⟨rfl, hb0.trans (hL11.mono hb0.size)⟩

set_option maxRecDepth 100000 in
set_option maxHeartbeats 8000000 in
theorem nearer_xv (w : World) (px py ax ay bx by_ : Int) (hall : [(px, py), (ax, ay), (bx, by_)].all smP = true) (_h1 : (ax = bx) = False) (x y : Rat) (r f : Int) (hN : Nearer px py ax ay bx by_ x y r f) (hsm : Sm px py ∧ Sm ax ay ∧ Sm bx by_) (hl0 : ¬ (bx - ax) * (px - ax) + (by_ - ay) * (py - ay) < 0) (hl : (ax - bx) * (px - bx) + (ay - by_) * (py - by_) < 0) (hs : Std w) : Calls Tryz.prog 10 #[.agg #[.int .i64 px, .int .i64 py], .agg #[.int .i64 ax, .int .i64 ay], .agg #[.int .i64 bx, .int .i64 by_]] w fun e w' => e = .returned (.bool true) ∧ Below w.heap.size w w' := by
  have HS := hide hs
  clear hs
  have HN := hide hN
  have r0 := hN.r0
  have f0 := hN.f0
  have hok : Co px ∧ Co py ∧ Co ax ∧ Co ay ∧ Co bx ∧ Co by_ := by omega
  have OKp := hide hok
  clear hN hok
  have hX := hide (show RR (lineR px py ax ay bx by_) = .tuple #[.string ⟨(RT x).toArray⟩, .int .i64 0] by rw [HN.out.lx]; rfl)
  have hY := hide (show RR (segR px py ax ay bx by_) = .tuple #[.string ⟨(RT y).toArray⟩, .int .i64 0] by rw [HN.out.ly]; rfl)
  obtain ⟨m0a, m0b⟩ := mulB (x := px - ax) (y := px - ax) (M := 18000) (N := 18000) (by omega) (by omega)
  obtain ⟨m1a, m1b⟩ := mulB (x := py - ay) (y := py - ay) (M := 18000) (N := 18000) (by omega) (by omega)
  obtain ⟨m2a, m2b⟩ := mulB (x := px - bx) (y := px - bx) (M := 18000) (N := 18000) (by omega) (by omega)
  obtain ⟨m3a, m3b⟩ := mulB (x := py - by_) (y := py - by_) (M := 18000) (N := 18000) (by omega) (by omega)
  have Q0 := hide (p := -9223372036854775808 ≤ min ((px - ax) * (px - ax) + (py - ay) * (py - ay)) ((px - bx) * (px - bx) + (py - by_) * (py - by_))) (by omega)
  have Q1 := hide (p := min ((px - ax) * (px - ax) + (py - ay) * (py - ay)) ((px - bx) * (px - bx) + (py - by_) * (py - by_)) ≤ 9223372036854775807) (by omega)
  have Q2 := hide (fit_int (k := min ((px - ax) * (px - ax) + (py - ay) * (py - ay)) ((px - bx) * (px - bx) + (py - by_) * (py - by_))) (by omega))
  clear m0a m0b m1a m1b m2a m2b m3a m3b
  have R3 := hide (show R2 ((ax - px) * (ax - px) + (ay - py) * (ay - py)) (Co px ∧ Co py ∧ Co ax ∧ Co ay) = .tuple #[.int .i64 ((ax - px) * (ax - px) + (ay - py) * (ay - py)), .int .i64 0] from R2_pos _ (by omega))
  have R4 := hide (show R2 ((bx - px) * (bx - px) + (by_ - py) * (by_ - py)) (Co px ∧ Co py ∧ Co bx ∧ Co by_) = .tuple #[.int .i64 ((bx - px) * (bx - px) + (by_ - py) * (by_ - py)), .int .i64 0] from R2_pos _ (by omega))
  have e3 : (ax - px) * (ax - px) + (ay - py) * (ay - py) = (px - ax) * (px - ax) + (py - ay) * (py - ay) := by grind
  have e4 : (bx - px) * (bx - px) + (by_ - py) * (by_ - py) = (px - bx) * (px - bx) + (py - by_) * (py - by_) := by grind
  rw [e3] at R3
  rw [e4] at R4
  have E3 := hide e3
  have E4 := hide e4
  clear e3 e4
  have R5 := hide (show R2 ((bx - ax) * (px - ax) + (by_ - ay) * (py - ay)) (Co (bx - ax) ∧ Co (by_ - ay) ∧ Co (px - ax) ∧ Co (py - ay)) = .tuple #[.int .i64 ((bx - ax) * (px - ax) + (by_ - ay) * (py - ay)), .int .i64 0] from R2_pos _ (by omega))
  have R6 := hide (show R2 ((ax - bx) * (px - bx) + (ay - by_) * (py - by_)) (Co (ax - bx) ∧ Co (ay - by_) ∧ Co (px - bx) ∧ Co (py - by_)) = .tuple #[.int .i64 ((ax - bx) * (px - bx) + (ay - by_) * (py - by_)), .int .i64 0] from R2_pos _ (by omega))
  go_enter Tryz.func10, Tryz.ntmps10
  go_upto_region 1 with (fail)
  have hb0 : Below w.heap.size w (((w.alloc (.cells #[.int .i64 px, .int .i64 py] 23)).alloc (.cells #[.int .i64 ax, .int .i64 ay] 23)).alloc (.cells #[.int .i64 bx, .int .i64 by_] 23)) := allocs_below w [(.cells #[.int .i64 px, .int .i64 py] 23), (.cells #[.int .i64 ax, .int .i64 ay] 23), (.cells #[.int .i64 bx, .int .i64 by_] 23)]
  have s0 : w.heap.size + 3 ≤ (((w.alloc (.cells #[.int .i64 px, .int .i64 py] 23)).alloc (.cells #[.int .i64 ax, .int .i64 ay] 23)).alloc (.cells #[.int .i64 bx, .int .i64 by_] 23)).heap.size := Nat.le_of_eq (allocs_size w [(.cells #[.int .i64 px, .int .i64 py] 23), (.cells #[.int .i64 ax, .int .i64 ay] 23), (.cells #[.int .i64 bx, .int .i64 by_] 23)]).symm
  have kb0 : (((w.alloc (.cells #[.int .i64 px, .int .i64 py] 23)).alloc (.cells #[.int .i64 ax, .int .i64 ay] 23)).alloc (.cells #[.int .i64 bx, .int .i64 by_] 23)).heap[w.heap.size + 0]? = some (.cells #[.int .i64 px, .int .i64 py] 23) := allocs_at w [(.cells #[.int .i64 px, .int .i64 py] 23), (.cells #[.int .i64 ax, .int .i64 ay] 23), (.cells #[.int .i64 bx, .int .i64 by_] 23)] 0 rfl
  have kb1 : (((w.alloc (.cells #[.int .i64 px, .int .i64 py] 23)).alloc (.cells #[.int .i64 ax, .int .i64 ay] 23)).alloc (.cells #[.int .i64 bx, .int .i64 by_] 23)).heap[w.heap.size + 1]? = some (.cells #[.int .i64 ax, .int .i64 ay] 23) := allocs_at w [(.cells #[.int .i64 px, .int .i64 py] 23), (.cells #[.int .i64 ax, .int .i64 ay] 23), (.cells #[.int .i64 bx, .int .i64 by_] 23)] 1 rfl
  have kb2 : (((w.alloc (.cells #[.int .i64 px, .int .i64 py] 23)).alloc (.cells #[.int .i64 ax, .int .i64 ay] 23)).alloc (.cells #[.int .i64 bx, .int .i64 by_] 23)).heap[w.heap.size + 2]? = some (.cells #[.int .i64 bx, .int .i64 by_] 23) := allocs_at w [(.cells #[.int .i64 px, .int .i64 py] 23), (.cells #[.int .i64 ax, .int .i64 ay] 23), (.cells #[.int .i64 bx, .int .i64 by_] 23)] 2 rfl
  generalize (((w.alloc (.cells #[.int .i64 px, .int .i64 py] 23)).alloc (.cells #[.int .i64 ax, .int .i64 ay] 23)).alloc (.cells #[.int .i64 bx, .int .i64 by_] 23)) = w0 at *
  have k0_0 : w0.cell? ⟨w.heap.size, 0, none⟩ = some (.int .i64 px) := (Blk.cell kb0 0).trans rfl
  have k0_1 : w0.cell? ⟨w.heap.size, 1, none⟩ = some (.int .i64 py) := (Blk.cell kb0 1).trans rfl
  have k1_0 : w0.cell? ⟨w.heap.size + 1, 0, none⟩ = some (.int .i64 ax) := (Blk.cell kb1 0).trans rfl
  have k1_1 : w0.cell? ⟨w.heap.size + 1, 1, none⟩ = some (.int .i64 ay) := (Blk.cell kb1 1).trans rfl
  have k2_0 : w0.cell? ⟨w.heap.size + 1 + 1, 0, none⟩ = some (.int .i64 bx) := (Blk.cell kb2 0).trans rfl
  have k2_1 : w0.cell? ⟨w.heap.size + 1 + 1, 1, none⟩ = some (.int .i64 by_) := (Blk.cell kb2 1).trans rfl
  clear kb0 kb1 kb2
  have SK : ∀ w', Below w0.heap.size w0 w' → Below w0.heap.size w0 w' ∧ w'.cell? ⟨w.heap.size, 0, none⟩ = some (.int .i64 px) ∧ w'.cell? ⟨w.heap.size, 1, none⟩ = some (.int .i64 py) ∧ w'.cell? ⟨w.heap.size + 1, 0, none⟩ = some (.int .i64 ax) ∧ w'.cell? ⟨w.heap.size + 1, 1, none⟩ = some (.int .i64 ay) ∧ w'.cell? ⟨w.heap.size + 1 + 1, 0, none⟩ = some (.int .i64 bx) ∧ w'.cell? ⟨w.heap.size + 1 + 1, 1, none⟩ = some (.int .i64 by_) := fun w' h => ⟨h, (bcell h _ _ (by omega)).trans k0_0, (bcell h _ _ (by omega)).trans k0_1, (bcell h _ _ (by omega)).trans k1_0, (bcell h _ _ (by omega)).trans k1_1, (bcell h _ _ (by omega)).trans k2_0, (bcell h _ _ (by omega)).trans k2_1⟩
  go_wp2_with fail
  refine (near_any _ _ [(px, py), (ax, ay), (bx, by_)] (Pts3 w0 (px, py) (ax, ay) (bx, by_) _ _) (by simp)).mono ?_
  rw [hall]
  rintro e w1 ⟨rfl, hb1⟩
  have hb1' := (allocs_below w0 [_]).trans (hb1.mono (by simp))
  have hL1 : Below w0.heap.size w0 w1 := hb1'
  obtain ⟨-, c1_0, c1_1, c1_2, c1_3, c1_4, c1_5⟩ := SK _ hL1
  have HS1 := hide (HS.out.below (hb0.trans (hL1.mono hb0.size)) (Nat.le_refl _))
  go_wp2_with fail
  refine (ToLine_any _ px py ax ay bx by_ HS1.out).mono ?_
  rw [hX.out]
  rintro e w2 ⟨rfl, hbw2⟩
  have hL2 : Below w0.heap.size w0 w2 := hL1.trans (hbw2.mono hL1.size)
  obtain ⟨-, c2_0, c2_1, c2_2, c2_3, c2_4, c2_5⟩ := SK _ hL2
  have HS2 := hide (HS.out.below (hb0.trans (hL2.mono hb0.size)) (Nat.le_refl _))
  go_wp2_with fail
  refine (ToSegment_any _ px py ax ay bx by_ HS2.out).mono ?_
  rw [hY.out]
  rintro e w3 ⟨rfl, hbw3⟩
  have hL3 : Below w0.heap.size w0 w3 := hL2.trans (hbw3.mono hL2.size)
  obtain ⟨-, c3_0, c3_1, c3_2, c3_3, c3_4, c3_5⟩ := SK _ hL3
  go_wp2_with fail
  refine (Square_any _ px py ax ay).mono ?_
  rw [E3.out, R3.out]
  rintro e w4 ⟨rfl, hbw4⟩
  have hL4 : Below w0.heap.size w0 w4 := hL3.trans (hbw4.mono hL3.size)
  obtain ⟨-, c4_0, c4_1, c4_2, c4_3, c4_4, c4_5⟩ := SK _ hL4
  go_wp2_with fail
  refine (Square_any _ px py bx by_).mono ?_
  rw [E4.out, R4.out]
  rintro e w5 ⟨rfl, hbw5⟩
  have hL5 : Below w0.heap.size w0 w5 := hL4.trans (hbw5.mono hL4.size)
  obtain ⟨-, c5_0, c5_1, c5_2, c5_3, c5_4, c5_5⟩ := SK _ hL5
  go_upto_region 7 with (fail)
  have Ww60 : IntKind.i64.wrap (bx - ax) = bx - ax := IntWalk.i64_in _ ⟨by omega, by omega⟩
  have Ww61 : IntKind.i64.wrap (by_ - ay) = by_ - ay := IntWalk.i64_in _ ⟨by omega, by omega⟩
  have Ww62 : IntKind.i64.wrap (px - ax) = px - ax := IntWalk.i64_in _ ⟨by omega, by omega⟩
  have Ww63 : IntKind.i64.wrap (py - ay) = py - ay := IntWalk.i64_in _ ⟨by omega, by omega⟩
  have Ww70 : IntKind.i64.wrap (ax - bx) = ax - bx := IntWalk.i64_in _ ⟨by omega, by omega⟩
  have Ww71 : IntKind.i64.wrap (ay - by_) = ay - by_ := IntWalk.i64_in _ ⟨by omega, by omega⟩
  have Ww72 : IntKind.i64.wrap (px - bx) = px - bx := IntWalk.i64_in _ ⟨by omega, by omega⟩
  have Ww73 : IntKind.i64.wrap (py - by_) = py - by_ := IntWalk.i64_in _ ⟨by omega, by omega⟩
  have q5 : w0.heap.size ≤ w5.heap.size := hL5.size
  have SQ5 : ∀ w', Below w5.heap.size w5 w' → Below w5.heap.size w5 w' ∧ w'.cell? ⟨w.heap.size, 0, none⟩ = some (.int .i64 px) ∧ w'.cell? ⟨w.heap.size, 1, none⟩ = some (.int .i64 py) ∧ w'.cell? ⟨w.heap.size + 1, 0, none⟩ = some (.int .i64 ax) ∧ w'.cell? ⟨w.heap.size + 1, 1, none⟩ = some (.int .i64 ay) ∧ w'.cell? ⟨w.heap.size + 1 + 1, 0, none⟩ = some (.int .i64 bx) ∧ w'.cell? ⟨w.heap.size + 1 + 1, 1, none⟩ = some (.int .i64 by_) := fun w' h => ⟨h, (bcell h _ _ (block_lt_of_cell c5_0)).trans c5_0, (bcell h _ _ (block_lt_of_cell c5_1)).trans c5_1, (bcell h _ _ (block_lt_of_cell c5_2)).trans c5_2, (bcell h _ _ (block_lt_of_cell c5_3)).trans c5_3, (bcell h _ _ (block_lt_of_cell c5_4)).trans c5_4, (bcell h _ _ (block_lt_of_cell c5_5)).trans c5_5⟩
  go_region_held3 (fun w' => Below w5.heap.size w5 w' ∧ w'.cell? ⟨w.heap.size, 0, none⟩ = some (.int .i64 px) ∧ w'.cell? ⟨w.heap.size, 1, none⟩ = some (.int .i64 py) ∧ w'.cell? ⟨w.heap.size + 1, 0, none⟩ = some (.int .i64 ax) ∧ w'.cell? ⟨w.heap.size + 1, 1, none⟩ = some (.int .i64 ay) ∧ w'.cell? ⟨w.heap.size + 1 + 1, 0, none⟩ = some (.int .i64 bx) ∧ w'.cell? ⟨w.heap.size + 1 + 1, 1, none⟩ = some (.int .i64 by_)) (first | exact SQ5 _ (Below.refl _ _).drew | exact SQ5 _ (bel_next (by assumption) (by assumption) (Nat.le_refl _)))
    (first
      | (go_at_call_of 28 (.int .i64 (bx - ax) : Value); refine (at_any _ (bx - ax) (by_ - ay)).mono ?_; rintro e w6 ⟨rfl, hbW⟩)
      | (go_at_call_of 28 (.int .i64 (px - ax) : Value); refine (at_any _ (px - ax) (py - ay)).mono ?_; rintro e w6 ⟨rfl, hbW⟩)
      | (go_at_call 34; refine (Dot_any _ (bx - ax) (by_ - ay) (px - ax) (py - ay)).mono ?_; rw [R5.out]; rintro e w6 ⟨rfl, hbW⟩))
  obtain ⟨hH6, c6_0, c6_1, c6_2, c6_3, c6_4, c6_5⟩ : Below w5.heap.size w5 w6 ∧ w6.cell? ⟨w.heap.size, 0, none⟩ = some (.int .i64 px) ∧ w6.cell? ⟨w.heap.size, 1, none⟩ = some (.int .i64 py) ∧ w6.cell? ⟨w.heap.size + 1, 0, none⟩ = some (.int .i64 ax) ∧ w6.cell? ⟨w.heap.size + 1, 1, none⟩ = some (.int .i64 ay) ∧ w6.cell? ⟨w.heap.size + 1 + 1, 0, none⟩ = some (.int .i64 bx) ∧ w6.cell? ⟨w.heap.size + 1 + 1, 1, none⟩ = some (.int .i64 by_) := by assumption
  have hL6 : Below w0.heap.size w0 w6 := hL5.trans (hH6.mono hL5.size)
  clear Ww60 Ww61 Ww62 Ww63
  go_upto_region 8 with (fail)
  have q6 : w0.heap.size ≤ w6.heap.size := hL6.size
  have SQ6 : ∀ w', Below w6.heap.size w6 w' → Below w6.heap.size w6 w' ∧ w'.cell? ⟨w.heap.size, 0, none⟩ = some (.int .i64 px) ∧ w'.cell? ⟨w.heap.size, 1, none⟩ = some (.int .i64 py) ∧ w'.cell? ⟨w.heap.size + 1, 0, none⟩ = some (.int .i64 ax) ∧ w'.cell? ⟨w.heap.size + 1, 1, none⟩ = some (.int .i64 ay) ∧ w'.cell? ⟨w.heap.size + 1 + 1, 0, none⟩ = some (.int .i64 bx) ∧ w'.cell? ⟨w.heap.size + 1 + 1, 1, none⟩ = some (.int .i64 by_) := fun w' h => ⟨h, (bcell h _ _ (block_lt_of_cell c6_0)).trans c6_0, (bcell h _ _ (block_lt_of_cell c6_1)).trans c6_1, (bcell h _ _ (block_lt_of_cell c6_2)).trans c6_2, (bcell h _ _ (block_lt_of_cell c6_3)).trans c6_3, (bcell h _ _ (block_lt_of_cell c6_4)).trans c6_4, (bcell h _ _ (block_lt_of_cell c6_5)).trans c6_5⟩
  go_region_held3 (fun w' => Below w6.heap.size w6 w' ∧ w'.cell? ⟨w.heap.size, 0, none⟩ = some (.int .i64 px) ∧ w'.cell? ⟨w.heap.size, 1, none⟩ = some (.int .i64 py) ∧ w'.cell? ⟨w.heap.size + 1, 0, none⟩ = some (.int .i64 ax) ∧ w'.cell? ⟨w.heap.size + 1, 1, none⟩ = some (.int .i64 ay) ∧ w'.cell? ⟨w.heap.size + 1 + 1, 0, none⟩ = some (.int .i64 bx) ∧ w'.cell? ⟨w.heap.size + 1 + 1, 1, none⟩ = some (.int .i64 by_)) (first | exact SQ6 _ (Below.refl _ _).drew | exact SQ6 _ (bel_next (by assumption) (by assumption) (Nat.le_refl _)))
    (first
      | (go_at_call_of 28 (.int .i64 (ax - bx) : Value); refine (at_any _ (ax - bx) (ay - by_)).mono ?_; rintro e w7 ⟨rfl, hbW⟩)
      | (go_at_call_of 28 (.int .i64 (px - bx) : Value); refine (at_any _ (px - bx) (py - by_)).mono ?_; rintro e w7 ⟨rfl, hbW⟩)
      | (go_at_call 34; refine (Dot_any _ (ax - bx) (ay - by_) (px - bx) (py - by_)).mono ?_; rw [R6.out]; rintro e w7 ⟨rfl, hbW⟩))
  obtain ⟨hH7, c7_0, c7_1, c7_2, c7_3, c7_4, c7_5⟩ : Below w6.heap.size w6 w7 ∧ w7.cell? ⟨w.heap.size, 0, none⟩ = some (.int .i64 px) ∧ w7.cell? ⟨w.heap.size, 1, none⟩ = some (.int .i64 py) ∧ w7.cell? ⟨w.heap.size + 1, 0, none⟩ = some (.int .i64 ax) ∧ w7.cell? ⟨w.heap.size + 1, 1, none⟩ = some (.int .i64 ay) ∧ w7.cell? ⟨w.heap.size + 1 + 1, 0, none⟩ = some (.int .i64 bx) ∧ w7.cell? ⟨w.heap.size + 1 + 1, 1, none⟩ = some (.int .i64 by_) := by assumption
  have hL7 : Below w0.heap.size w0 w7 := hL6.trans (hH7.mono hL6.size)
  clear Ww70 Ww71 Ww72 Ww73
  have HS3 := hide (HS.out.below (hb0.trans (hL7.mono hb0.size)) (Nat.le_refl _))
  go_wp2_with fail
  refine (rcompare_any _ _ _ x y rfl rfl HN.out.fx HN.out.fy HS3.out).mono ?_
  rw [HN.out.cx]
  rintro e w8 ⟨rfl, hbw8⟩
  have hL8 : Below w0.heap.size w0 w8 := hL7.trans (hbw8.mono hL7.size)
  obtain ⟨-, c8_0, c8_1, c8_2, c8_3, c8_4, c8_5⟩ := SK _ hL8
  go_wp2_with fail
  refine (r2whole_any (min ((px - ax) * (px - ax) + (py - ay) * (py - ay)) ((px - bx) * (px - bx) + (py - by_) * (py - by_))) Q0.out Q1.out _).mono ?_
  rintro e w9 ⟨rfl, hbw9⟩
  have hL9 : Below w0.heap.size w0 w9 := hL8.trans (hbw9.mono hL8.size)
  obtain ⟨-, c9_0, c9_1, c9_2, c9_3, c9_4, c9_5⟩ := SK _ hL9
  have HS4 := hide (HS.out.below (hb0.trans (hL9.mono hb0.size)) (Nat.le_refl _))
  go_wp2_with fail
  refine (rcompare_any _ _ _ y ((min ((px - ax) * (px - ax) + (py - ay) * (py - ay)) ((px - bx) * (px - bx) + (py - by_) * (py - by_)) : Int) : Rat) rfl rfl HN.out.fy Q2.out HS4.out).mono ?_
  rw [HN.out.cy]
  rintro e w10 ⟨rfl, hbw10⟩
  have hL10 : Below w0.heap.size w0 w10 := hL9.trans (hbw10.mono hL9.size)
  obtain ⟨-, c10_0, c10_1, c10_2, c10_3, c10_4, c10_5⟩ := SK _ hL10
  have HSa := hide (HS.out.below (hb0.trans (hL10.mono hb0.size)) (Nat.le_refl _))
  go_wp2_with fail
  refine (awake_any _ HSa.out).mono ?_
  rintro e w11 ⟨rfl, hbw11⟩
  have hL11 : Below w0.heap.size w0 w11 := hL10.trans (hbw11.mono hL10.size)
  obtain ⟨-, c11_0, c11_1, c11_2, c11_3, c11_4, c11_5⟩ := SK _ hL11
  go_wp2_with fail
  go_ret
  exact ⟨rfl, hb0.trans (hL11.mono hb0.size)⟩

set_option maxRecDepth 100000 in
set_option maxHeartbeats 8000000 in
theorem nearer_xr (w : World) (px py ax ay bx by_ : Int) (hall : [(px, py), (ax, ay), (bx, by_)].all smP = true) (_h1 : (ax = bx) = False) (x y : Rat) (r f : Int) (hN : Nearer px py ax ay bx by_ x y r f) (hsm : Sm px py ∧ Sm ax ay ∧ Sm bx by_) (hl0 : ¬ (bx - ax) * (px - ax) + (by_ - ay) * (py - ay) < 0) (hl1 : ¬ (ax - bx) * (px - bx) + (ay - by_) * (py - by_) < 0) (hl : (r == 0) = true) (hs : Std w) : Calls Tryz.prog 10 #[.agg #[.int .i64 px, .int .i64 py], .agg #[.int .i64 ax, .int .i64 ay], .agg #[.int .i64 bx, .int .i64 by_]] w fun e w' => e = .returned (.bool true) ∧ Below w.heap.size w w' := by
  have HS := hide hs
  clear hs
  have HN := hide hN
  have r0 := hN.r0
  have f0 := hN.f0
  have hok : Co px ∧ Co py ∧ Co ax ∧ Co ay ∧ Co bx ∧ Co by_ := by omega
  have OKp := hide hok
  clear hN hok
  have hX := hide (show RR (lineR px py ax ay bx by_) = .tuple #[.string ⟨(RT x).toArray⟩, .int .i64 0] by rw [HN.out.lx]; rfl)
  have hY := hide (show RR (segR px py ax ay bx by_) = .tuple #[.string ⟨(RT y).toArray⟩, .int .i64 0] by rw [HN.out.ly]; rfl)
  obtain ⟨m0a, m0b⟩ := mulB (x := px - ax) (y := px - ax) (M := 18000) (N := 18000) (by omega) (by omega)
  obtain ⟨m1a, m1b⟩ := mulB (x := py - ay) (y := py - ay) (M := 18000) (N := 18000) (by omega) (by omega)
  obtain ⟨m2a, m2b⟩ := mulB (x := px - bx) (y := px - bx) (M := 18000) (N := 18000) (by omega) (by omega)
  obtain ⟨m3a, m3b⟩ := mulB (x := py - by_) (y := py - by_) (M := 18000) (N := 18000) (by omega) (by omega)
  have Q0 := hide (p := -9223372036854775808 ≤ min ((px - ax) * (px - ax) + (py - ay) * (py - ay)) ((px - bx) * (px - bx) + (py - by_) * (py - by_))) (by omega)
  have Q1 := hide (p := min ((px - ax) * (px - ax) + (py - ay) * (py - ay)) ((px - bx) * (px - bx) + (py - by_) * (py - by_)) ≤ 9223372036854775807) (by omega)
  have Q2 := hide (fit_int (k := min ((px - ax) * (px - ax) + (py - ay) * (py - ay)) ((px - bx) * (px - bx) + (py - by_) * (py - by_))) (by omega))
  clear m0a m0b m1a m1b m2a m2b m3a m3b
  have R3 := hide (show R2 ((ax - px) * (ax - px) + (ay - py) * (ay - py)) (Co px ∧ Co py ∧ Co ax ∧ Co ay) = .tuple #[.int .i64 ((ax - px) * (ax - px) + (ay - py) * (ay - py)), .int .i64 0] from R2_pos _ (by omega))
  have R4 := hide (show R2 ((bx - px) * (bx - px) + (by_ - py) * (by_ - py)) (Co px ∧ Co py ∧ Co bx ∧ Co by_) = .tuple #[.int .i64 ((bx - px) * (bx - px) + (by_ - py) * (by_ - py)), .int .i64 0] from R2_pos _ (by omega))
  have e3 : (ax - px) * (ax - px) + (ay - py) * (ay - py) = (px - ax) * (px - ax) + (py - ay) * (py - ay) := by grind
  have e4 : (bx - px) * (bx - px) + (by_ - py) * (by_ - py) = (px - bx) * (px - bx) + (py - by_) * (py - by_) := by grind
  rw [e3] at R3
  rw [e4] at R4
  have E3 := hide e3
  have E4 := hide e4
  clear e3 e4
  have R5 := hide (show R2 ((bx - ax) * (px - ax) + (by_ - ay) * (py - ay)) (Co (bx - ax) ∧ Co (by_ - ay) ∧ Co (px - ax) ∧ Co (py - ay)) = .tuple #[.int .i64 ((bx - ax) * (px - ax) + (by_ - ay) * (py - ay)), .int .i64 0] from R2_pos _ (by omega))
  have R6 := hide (show R2 ((ax - bx) * (px - bx) + (ay - by_) * (py - by_)) (Co (ax - bx) ∧ Co (ay - by_) ∧ Co (px - bx) ∧ Co (py - by_)) = .tuple #[.int .i64 ((ax - bx) * (px - bx) + (ay - by_) * (py - by_)), .int .i64 0] from R2_pos _ (by omega))
  go_enter Tryz.func10, Tryz.ntmps10
  go_upto_region 1 with (fail)
  have hb0 : Below w.heap.size w (((w.alloc (.cells #[.int .i64 px, .int .i64 py] 23)).alloc (.cells #[.int .i64 ax, .int .i64 ay] 23)).alloc (.cells #[.int .i64 bx, .int .i64 by_] 23)) := allocs_below w [(.cells #[.int .i64 px, .int .i64 py] 23), (.cells #[.int .i64 ax, .int .i64 ay] 23), (.cells #[.int .i64 bx, .int .i64 by_] 23)]
  have s0 : w.heap.size + 3 ≤ (((w.alloc (.cells #[.int .i64 px, .int .i64 py] 23)).alloc (.cells #[.int .i64 ax, .int .i64 ay] 23)).alloc (.cells #[.int .i64 bx, .int .i64 by_] 23)).heap.size := Nat.le_of_eq (allocs_size w [(.cells #[.int .i64 px, .int .i64 py] 23), (.cells #[.int .i64 ax, .int .i64 ay] 23), (.cells #[.int .i64 bx, .int .i64 by_] 23)]).symm
  have kb0 : (((w.alloc (.cells #[.int .i64 px, .int .i64 py] 23)).alloc (.cells #[.int .i64 ax, .int .i64 ay] 23)).alloc (.cells #[.int .i64 bx, .int .i64 by_] 23)).heap[w.heap.size + 0]? = some (.cells #[.int .i64 px, .int .i64 py] 23) := allocs_at w [(.cells #[.int .i64 px, .int .i64 py] 23), (.cells #[.int .i64 ax, .int .i64 ay] 23), (.cells #[.int .i64 bx, .int .i64 by_] 23)] 0 rfl
  have kb1 : (((w.alloc (.cells #[.int .i64 px, .int .i64 py] 23)).alloc (.cells #[.int .i64 ax, .int .i64 ay] 23)).alloc (.cells #[.int .i64 bx, .int .i64 by_] 23)).heap[w.heap.size + 1]? = some (.cells #[.int .i64 ax, .int .i64 ay] 23) := allocs_at w [(.cells #[.int .i64 px, .int .i64 py] 23), (.cells #[.int .i64 ax, .int .i64 ay] 23), (.cells #[.int .i64 bx, .int .i64 by_] 23)] 1 rfl
  have kb2 : (((w.alloc (.cells #[.int .i64 px, .int .i64 py] 23)).alloc (.cells #[.int .i64 ax, .int .i64 ay] 23)).alloc (.cells #[.int .i64 bx, .int .i64 by_] 23)).heap[w.heap.size + 2]? = some (.cells #[.int .i64 bx, .int .i64 by_] 23) := allocs_at w [(.cells #[.int .i64 px, .int .i64 py] 23), (.cells #[.int .i64 ax, .int .i64 ay] 23), (.cells #[.int .i64 bx, .int .i64 by_] 23)] 2 rfl
  generalize (((w.alloc (.cells #[.int .i64 px, .int .i64 py] 23)).alloc (.cells #[.int .i64 ax, .int .i64 ay] 23)).alloc (.cells #[.int .i64 bx, .int .i64 by_] 23)) = w0 at *
  have k0_0 : w0.cell? ⟨w.heap.size, 0, none⟩ = some (.int .i64 px) := (Blk.cell kb0 0).trans rfl
  have k0_1 : w0.cell? ⟨w.heap.size, 1, none⟩ = some (.int .i64 py) := (Blk.cell kb0 1).trans rfl
  have k1_0 : w0.cell? ⟨w.heap.size + 1, 0, none⟩ = some (.int .i64 ax) := (Blk.cell kb1 0).trans rfl
  have k1_1 : w0.cell? ⟨w.heap.size + 1, 1, none⟩ = some (.int .i64 ay) := (Blk.cell kb1 1).trans rfl
  have k2_0 : w0.cell? ⟨w.heap.size + 1 + 1, 0, none⟩ = some (.int .i64 bx) := (Blk.cell kb2 0).trans rfl
  have k2_1 : w0.cell? ⟨w.heap.size + 1 + 1, 1, none⟩ = some (.int .i64 by_) := (Blk.cell kb2 1).trans rfl
  clear kb0 kb1 kb2
  have SK : ∀ w', Below w0.heap.size w0 w' → Below w0.heap.size w0 w' ∧ w'.cell? ⟨w.heap.size, 0, none⟩ = some (.int .i64 px) ∧ w'.cell? ⟨w.heap.size, 1, none⟩ = some (.int .i64 py) ∧ w'.cell? ⟨w.heap.size + 1, 0, none⟩ = some (.int .i64 ax) ∧ w'.cell? ⟨w.heap.size + 1, 1, none⟩ = some (.int .i64 ay) ∧ w'.cell? ⟨w.heap.size + 1 + 1, 0, none⟩ = some (.int .i64 bx) ∧ w'.cell? ⟨w.heap.size + 1 + 1, 1, none⟩ = some (.int .i64 by_) := fun w' h => ⟨h, (bcell h _ _ (by omega)).trans k0_0, (bcell h _ _ (by omega)).trans k0_1, (bcell h _ _ (by omega)).trans k1_0, (bcell h _ _ (by omega)).trans k1_1, (bcell h _ _ (by omega)).trans k2_0, (bcell h _ _ (by omega)).trans k2_1⟩
  go_wp2_with fail
  refine (near_any _ _ [(px, py), (ax, ay), (bx, by_)] (Pts3 w0 (px, py) (ax, ay) (bx, by_) _ _) (by simp)).mono ?_
  rw [hall]
  rintro e w1 ⟨rfl, hb1⟩
  have hb1' := (allocs_below w0 [_]).trans (hb1.mono (by simp))
  have hL1 : Below w0.heap.size w0 w1 := hb1'
  obtain ⟨-, c1_0, c1_1, c1_2, c1_3, c1_4, c1_5⟩ := SK _ hL1
  have HS1 := hide (HS.out.below (hb0.trans (hL1.mono hb0.size)) (Nat.le_refl _))
  go_wp2_with fail
  refine (ToLine_any _ px py ax ay bx by_ HS1.out).mono ?_
  rw [hX.out]
  rintro e w2 ⟨rfl, hbw2⟩
  have hL2 : Below w0.heap.size w0 w2 := hL1.trans (hbw2.mono hL1.size)
  obtain ⟨-, c2_0, c2_1, c2_2, c2_3, c2_4, c2_5⟩ := SK _ hL2
  have HS2 := hide (HS.out.below (hb0.trans (hL2.mono hb0.size)) (Nat.le_refl _))
  go_wp2_with fail
  refine (ToSegment_any _ px py ax ay bx by_ HS2.out).mono ?_
  rw [hY.out]
  rintro e w3 ⟨rfl, hbw3⟩
  have hL3 : Below w0.heap.size w0 w3 := hL2.trans (hbw3.mono hL2.size)
  obtain ⟨-, c3_0, c3_1, c3_2, c3_3, c3_4, c3_5⟩ := SK _ hL3
  go_wp2_with fail
  refine (Square_any _ px py ax ay).mono ?_
  rw [E3.out, R3.out]
  rintro e w4 ⟨rfl, hbw4⟩
  have hL4 : Below w0.heap.size w0 w4 := hL3.trans (hbw4.mono hL3.size)
  obtain ⟨-, c4_0, c4_1, c4_2, c4_3, c4_4, c4_5⟩ := SK _ hL4
  go_wp2_with fail
  refine (Square_any _ px py bx by_).mono ?_
  rw [E4.out, R4.out]
  rintro e w5 ⟨rfl, hbw5⟩
  have hL5 : Below w0.heap.size w0 w5 := hL4.trans (hbw5.mono hL4.size)
  obtain ⟨-, c5_0, c5_1, c5_2, c5_3, c5_4, c5_5⟩ := SK _ hL5
  go_upto_region 7 with (fail)
  have Ww60 : IntKind.i64.wrap (bx - ax) = bx - ax := IntWalk.i64_in _ ⟨by omega, by omega⟩
  have Ww61 : IntKind.i64.wrap (by_ - ay) = by_ - ay := IntWalk.i64_in _ ⟨by omega, by omega⟩
  have Ww62 : IntKind.i64.wrap (px - ax) = px - ax := IntWalk.i64_in _ ⟨by omega, by omega⟩
  have Ww63 : IntKind.i64.wrap (py - ay) = py - ay := IntWalk.i64_in _ ⟨by omega, by omega⟩
  have Ww70 : IntKind.i64.wrap (ax - bx) = ax - bx := IntWalk.i64_in _ ⟨by omega, by omega⟩
  have Ww71 : IntKind.i64.wrap (ay - by_) = ay - by_ := IntWalk.i64_in _ ⟨by omega, by omega⟩
  have Ww72 : IntKind.i64.wrap (px - bx) = px - bx := IntWalk.i64_in _ ⟨by omega, by omega⟩
  have Ww73 : IntKind.i64.wrap (py - by_) = py - by_ := IntWalk.i64_in _ ⟨by omega, by omega⟩
  have q5 : w0.heap.size ≤ w5.heap.size := hL5.size
  have SQ5 : ∀ w', Below w5.heap.size w5 w' → Below w5.heap.size w5 w' ∧ w'.cell? ⟨w.heap.size, 0, none⟩ = some (.int .i64 px) ∧ w'.cell? ⟨w.heap.size, 1, none⟩ = some (.int .i64 py) ∧ w'.cell? ⟨w.heap.size + 1, 0, none⟩ = some (.int .i64 ax) ∧ w'.cell? ⟨w.heap.size + 1, 1, none⟩ = some (.int .i64 ay) ∧ w'.cell? ⟨w.heap.size + 1 + 1, 0, none⟩ = some (.int .i64 bx) ∧ w'.cell? ⟨w.heap.size + 1 + 1, 1, none⟩ = some (.int .i64 by_) := fun w' h => ⟨h, (bcell h _ _ (block_lt_of_cell c5_0)).trans c5_0, (bcell h _ _ (block_lt_of_cell c5_1)).trans c5_1, (bcell h _ _ (block_lt_of_cell c5_2)).trans c5_2, (bcell h _ _ (block_lt_of_cell c5_3)).trans c5_3, (bcell h _ _ (block_lt_of_cell c5_4)).trans c5_4, (bcell h _ _ (block_lt_of_cell c5_5)).trans c5_5⟩
  go_region_held3 (fun w' => Below w5.heap.size w5 w' ∧ w'.cell? ⟨w.heap.size, 0, none⟩ = some (.int .i64 px) ∧ w'.cell? ⟨w.heap.size, 1, none⟩ = some (.int .i64 py) ∧ w'.cell? ⟨w.heap.size + 1, 0, none⟩ = some (.int .i64 ax) ∧ w'.cell? ⟨w.heap.size + 1, 1, none⟩ = some (.int .i64 ay) ∧ w'.cell? ⟨w.heap.size + 1 + 1, 0, none⟩ = some (.int .i64 bx) ∧ w'.cell? ⟨w.heap.size + 1 + 1, 1, none⟩ = some (.int .i64 by_)) (first | exact SQ5 _ (Below.refl _ _).drew | exact SQ5 _ (bel_next (by assumption) (by assumption) (Nat.le_refl _)))
    (first
      | (go_at_call_of 28 (.int .i64 (bx - ax) : Value); refine (at_any _ (bx - ax) (by_ - ay)).mono ?_; rintro e w6 ⟨rfl, hbW⟩)
      | (go_at_call_of 28 (.int .i64 (px - ax) : Value); refine (at_any _ (px - ax) (py - ay)).mono ?_; rintro e w6 ⟨rfl, hbW⟩)
      | (go_at_call 34; refine (Dot_any _ (bx - ax) (by_ - ay) (px - ax) (py - ay)).mono ?_; rw [R5.out]; rintro e w6 ⟨rfl, hbW⟩))
  obtain ⟨hH6, c6_0, c6_1, c6_2, c6_3, c6_4, c6_5⟩ : Below w5.heap.size w5 w6 ∧ w6.cell? ⟨w.heap.size, 0, none⟩ = some (.int .i64 px) ∧ w6.cell? ⟨w.heap.size, 1, none⟩ = some (.int .i64 py) ∧ w6.cell? ⟨w.heap.size + 1, 0, none⟩ = some (.int .i64 ax) ∧ w6.cell? ⟨w.heap.size + 1, 1, none⟩ = some (.int .i64 ay) ∧ w6.cell? ⟨w.heap.size + 1 + 1, 0, none⟩ = some (.int .i64 bx) ∧ w6.cell? ⟨w.heap.size + 1 + 1, 1, none⟩ = some (.int .i64 by_) := by assumption
  have hL6 : Below w0.heap.size w0 w6 := hL5.trans (hH6.mono hL5.size)
  clear Ww60 Ww61 Ww62 Ww63
  go_upto_region 8 with (fail)
  have q6 : w0.heap.size ≤ w6.heap.size := hL6.size
  have SQ6 : ∀ w', Below w6.heap.size w6 w' → Below w6.heap.size w6 w' ∧ w'.cell? ⟨w.heap.size, 0, none⟩ = some (.int .i64 px) ∧ w'.cell? ⟨w.heap.size, 1, none⟩ = some (.int .i64 py) ∧ w'.cell? ⟨w.heap.size + 1, 0, none⟩ = some (.int .i64 ax) ∧ w'.cell? ⟨w.heap.size + 1, 1, none⟩ = some (.int .i64 ay) ∧ w'.cell? ⟨w.heap.size + 1 + 1, 0, none⟩ = some (.int .i64 bx) ∧ w'.cell? ⟨w.heap.size + 1 + 1, 1, none⟩ = some (.int .i64 by_) := fun w' h => ⟨h, (bcell h _ _ (block_lt_of_cell c6_0)).trans c6_0, (bcell h _ _ (block_lt_of_cell c6_1)).trans c6_1, (bcell h _ _ (block_lt_of_cell c6_2)).trans c6_2, (bcell h _ _ (block_lt_of_cell c6_3)).trans c6_3, (bcell h _ _ (block_lt_of_cell c6_4)).trans c6_4, (bcell h _ _ (block_lt_of_cell c6_5)).trans c6_5⟩
  go_region_held3 (fun w' => Below w6.heap.size w6 w' ∧ w'.cell? ⟨w.heap.size, 0, none⟩ = some (.int .i64 px) ∧ w'.cell? ⟨w.heap.size, 1, none⟩ = some (.int .i64 py) ∧ w'.cell? ⟨w.heap.size + 1, 0, none⟩ = some (.int .i64 ax) ∧ w'.cell? ⟨w.heap.size + 1, 1, none⟩ = some (.int .i64 ay) ∧ w'.cell? ⟨w.heap.size + 1 + 1, 0, none⟩ = some (.int .i64 bx) ∧ w'.cell? ⟨w.heap.size + 1 + 1, 1, none⟩ = some (.int .i64 by_)) (first | exact SQ6 _ (Below.refl _ _).drew | exact SQ6 _ (bel_next (by assumption) (by assumption) (Nat.le_refl _)))
    (first
      | (go_at_call_of 28 (.int .i64 (ax - bx) : Value); refine (at_any _ (ax - bx) (ay - by_)).mono ?_; rintro e w7 ⟨rfl, hbW⟩)
      | (go_at_call_of 28 (.int .i64 (px - bx) : Value); refine (at_any _ (px - bx) (py - by_)).mono ?_; rintro e w7 ⟨rfl, hbW⟩)
      | (go_at_call 34; refine (Dot_any _ (ax - bx) (ay - by_) (px - bx) (py - by_)).mono ?_; rw [R6.out]; rintro e w7 ⟨rfl, hbW⟩))
  obtain ⟨hH7, c7_0, c7_1, c7_2, c7_3, c7_4, c7_5⟩ : Below w6.heap.size w6 w7 ∧ w7.cell? ⟨w.heap.size, 0, none⟩ = some (.int .i64 px) ∧ w7.cell? ⟨w.heap.size, 1, none⟩ = some (.int .i64 py) ∧ w7.cell? ⟨w.heap.size + 1, 0, none⟩ = some (.int .i64 ax) ∧ w7.cell? ⟨w.heap.size + 1, 1, none⟩ = some (.int .i64 ay) ∧ w7.cell? ⟨w.heap.size + 1 + 1, 0, none⟩ = some (.int .i64 bx) ∧ w7.cell? ⟨w.heap.size + 1 + 1, 1, none⟩ = some (.int .i64 by_) := by assumption
  have hL7 : Below w0.heap.size w0 w7 := hL6.trans (hH7.mono hL6.size)
  clear Ww70 Ww71 Ww72 Ww73
  have HS3 := hide (HS.out.below (hb0.trans (hL7.mono hb0.size)) (Nat.le_refl _))
  go_wp2_with fail
  refine (rcompare_any _ _ _ x y rfl rfl HN.out.fx HN.out.fy HS3.out).mono ?_
  rw [HN.out.cx]
  rintro e w8 ⟨rfl, hbw8⟩
  have hL8 : Below w0.heap.size w0 w8 := hL7.trans (hbw8.mono hL7.size)
  obtain ⟨-, c8_0, c8_1, c8_2, c8_3, c8_4, c8_5⟩ := SK _ hL8
  go_wp2_with fail
  refine (r2whole_any (min ((px - ax) * (px - ax) + (py - ay) * (py - ay)) ((px - bx) * (px - bx) + (py - by_) * (py - by_))) Q0.out Q1.out _).mono ?_
  rintro e w9 ⟨rfl, hbw9⟩
  have hL9 : Below w0.heap.size w0 w9 := hL8.trans (hbw9.mono hL8.size)
  obtain ⟨-, c9_0, c9_1, c9_2, c9_3, c9_4, c9_5⟩ := SK _ hL9
  have HS4 := hide (HS.out.below (hb0.trans (hL9.mono hb0.size)) (Nat.le_refl _))
  go_wp2_with fail
  refine (rcompare_any _ _ _ y ((min ((px - ax) * (px - ax) + (py - ay) * (py - ay)) ((px - bx) * (px - bx) + (py - by_) * (py - by_)) : Int) : Rat) rfl rfl HN.out.fy Q2.out HS4.out).mono ?_
  rw [HN.out.cy]
  rintro e w10 ⟨rfl, hbw10⟩
  have hL10 : Below w0.heap.size w0 w10 := hL9.trans (hbw10.mono hL9.size)
  obtain ⟨-, c10_0, c10_1, c10_2, c10_3, c10_4, c10_5⟩ := SK _ hL10
  have HSa := hide (HS.out.below (hb0.trans (hL10.mono hb0.size)) (Nat.le_refl _))
  go_wp2_with fail
  refine (awake_any _ HSa.out).mono ?_
  rintro e w11 ⟨rfl, hbw11⟩
  have hL11 : Below w0.heap.size w0 w11 := hL10.trans (hbw11.mono hL10.size)
  obtain ⟨-, c11_0, c11_1, c11_2, c11_3, c11_4, c11_5⟩ := SK _ hL11
  go_wp2_with fail
  go_ret
  exact ⟨rfl, hb0.trans (hL11.mono hb0.size)⟩

set_option maxRecDepth 100000 in
set_option maxHeartbeats 8000000 in
theorem nearer_yu (w : World) (px py ax ay bx by_ : Int) (hall : [(px, py), (ax, ay), (bx, by_)].all smP = true) (_h1 : (ax = bx) = True) (_h2 : (ay = by_) = False) (x y : Rat) (r f : Int) (hN : Nearer px py ax ay bx by_ x y r f) (hsm : Sm px py ∧ Sm ax ay ∧ Sm bx by_) (hl : (bx - ax) * (px - ax) + (by_ - ay) * (py - ay) < 0) (hs : Std w) : Calls Tryz.prog 10 #[.agg #[.int .i64 px, .int .i64 py], .agg #[.int .i64 ax, .int .i64 ay], .agg #[.int .i64 bx, .int .i64 by_]] w fun e w' => e = .returned (.bool true) ∧ Below w.heap.size w w' := by
  have HS := hide hs
  clear hs
  have HN := hide hN
  have r0 := hN.r0
  have f0 := hN.f0
  have hok : Co px ∧ Co py ∧ Co ax ∧ Co ay ∧ Co bx ∧ Co by_ := by omega
  have OKp := hide hok
  clear hN hok
  have hX := hide (show RR (lineR px py ax ay bx by_) = .tuple #[.string ⟨(RT x).toArray⟩, .int .i64 0] by rw [HN.out.lx]; rfl)
  have hY := hide (show RR (segR px py ax ay bx by_) = .tuple #[.string ⟨(RT y).toArray⟩, .int .i64 0] by rw [HN.out.ly]; rfl)
  obtain ⟨m0a, m0b⟩ := mulB (x := px - ax) (y := px - ax) (M := 18000) (N := 18000) (by omega) (by omega)
  obtain ⟨m1a, m1b⟩ := mulB (x := py - ay) (y := py - ay) (M := 18000) (N := 18000) (by omega) (by omega)
  obtain ⟨m2a, m2b⟩ := mulB (x := px - bx) (y := px - bx) (M := 18000) (N := 18000) (by omega) (by omega)
  obtain ⟨m3a, m3b⟩ := mulB (x := py - by_) (y := py - by_) (M := 18000) (N := 18000) (by omega) (by omega)
  have Q0 := hide (p := -9223372036854775808 ≤ min ((px - ax) * (px - ax) + (py - ay) * (py - ay)) ((px - bx) * (px - bx) + (py - by_) * (py - by_))) (by omega)
  have Q1 := hide (p := min ((px - ax) * (px - ax) + (py - ay) * (py - ay)) ((px - bx) * (px - bx) + (py - by_) * (py - by_)) ≤ 9223372036854775807) (by omega)
  have Q2 := hide (fit_int (k := min ((px - ax) * (px - ax) + (py - ay) * (py - ay)) ((px - bx) * (px - bx) + (py - by_) * (py - by_))) (by omega))
  clear m0a m0b m1a m1b m2a m2b m3a m3b
  have R3 := hide (show R2 ((ax - px) * (ax - px) + (ay - py) * (ay - py)) (Co px ∧ Co py ∧ Co ax ∧ Co ay) = .tuple #[.int .i64 ((ax - px) * (ax - px) + (ay - py) * (ay - py)), .int .i64 0] from R2_pos _ (by omega))
  have R4 := hide (show R2 ((bx - px) * (bx - px) + (by_ - py) * (by_ - py)) (Co px ∧ Co py ∧ Co bx ∧ Co by_) = .tuple #[.int .i64 ((bx - px) * (bx - px) + (by_ - py) * (by_ - py)), .int .i64 0] from R2_pos _ (by omega))
  have e3 : (ax - px) * (ax - px) + (ay - py) * (ay - py) = (px - ax) * (px - ax) + (py - ay) * (py - ay) := by grind
  have e4 : (bx - px) * (bx - px) + (by_ - py) * (by_ - py) = (px - bx) * (px - bx) + (py - by_) * (py - by_) := by grind
  rw [e3] at R3
  rw [e4] at R4
  have E3 := hide e3
  have E4 := hide e4
  clear e3 e4
  have R5 := hide (show R2 ((bx - ax) * (px - ax) + (by_ - ay) * (py - ay)) (Co (bx - ax) ∧ Co (by_ - ay) ∧ Co (px - ax) ∧ Co (py - ay)) = .tuple #[.int .i64 ((bx - ax) * (px - ax) + (by_ - ay) * (py - ay)), .int .i64 0] from R2_pos _ (by omega))
  have R6 := hide (show R2 ((ax - bx) * (px - bx) + (ay - by_) * (py - by_)) (Co (ax - bx) ∧ Co (ay - by_) ∧ Co (px - bx) ∧ Co (py - by_)) = .tuple #[.int .i64 ((ax - bx) * (px - bx) + (ay - by_) * (py - by_)), .int .i64 0] from R2_pos _ (by omega))
  go_enter Tryz.func10, Tryz.ntmps10
  go_upto_region 1 with (fail)
  have hb0 : Below w.heap.size w (((w.alloc (.cells #[.int .i64 px, .int .i64 py] 23)).alloc (.cells #[.int .i64 ax, .int .i64 ay] 23)).alloc (.cells #[.int .i64 bx, .int .i64 by_] 23)) := allocs_below w [(.cells #[.int .i64 px, .int .i64 py] 23), (.cells #[.int .i64 ax, .int .i64 ay] 23), (.cells #[.int .i64 bx, .int .i64 by_] 23)]
  have s0 : w.heap.size + 3 ≤ (((w.alloc (.cells #[.int .i64 px, .int .i64 py] 23)).alloc (.cells #[.int .i64 ax, .int .i64 ay] 23)).alloc (.cells #[.int .i64 bx, .int .i64 by_] 23)).heap.size := Nat.le_of_eq (allocs_size w [(.cells #[.int .i64 px, .int .i64 py] 23), (.cells #[.int .i64 ax, .int .i64 ay] 23), (.cells #[.int .i64 bx, .int .i64 by_] 23)]).symm
  have kb0 : (((w.alloc (.cells #[.int .i64 px, .int .i64 py] 23)).alloc (.cells #[.int .i64 ax, .int .i64 ay] 23)).alloc (.cells #[.int .i64 bx, .int .i64 by_] 23)).heap[w.heap.size + 0]? = some (.cells #[.int .i64 px, .int .i64 py] 23) := allocs_at w [(.cells #[.int .i64 px, .int .i64 py] 23), (.cells #[.int .i64 ax, .int .i64 ay] 23), (.cells #[.int .i64 bx, .int .i64 by_] 23)] 0 rfl
  have kb1 : (((w.alloc (.cells #[.int .i64 px, .int .i64 py] 23)).alloc (.cells #[.int .i64 ax, .int .i64 ay] 23)).alloc (.cells #[.int .i64 bx, .int .i64 by_] 23)).heap[w.heap.size + 1]? = some (.cells #[.int .i64 ax, .int .i64 ay] 23) := allocs_at w [(.cells #[.int .i64 px, .int .i64 py] 23), (.cells #[.int .i64 ax, .int .i64 ay] 23), (.cells #[.int .i64 bx, .int .i64 by_] 23)] 1 rfl
  have kb2 : (((w.alloc (.cells #[.int .i64 px, .int .i64 py] 23)).alloc (.cells #[.int .i64 ax, .int .i64 ay] 23)).alloc (.cells #[.int .i64 bx, .int .i64 by_] 23)).heap[w.heap.size + 2]? = some (.cells #[.int .i64 bx, .int .i64 by_] 23) := allocs_at w [(.cells #[.int .i64 px, .int .i64 py] 23), (.cells #[.int .i64 ax, .int .i64 ay] 23), (.cells #[.int .i64 bx, .int .i64 by_] 23)] 2 rfl
  generalize (((w.alloc (.cells #[.int .i64 px, .int .i64 py] 23)).alloc (.cells #[.int .i64 ax, .int .i64 ay] 23)).alloc (.cells #[.int .i64 bx, .int .i64 by_] 23)) = w0 at *
  have k0_0 : w0.cell? ⟨w.heap.size, 0, none⟩ = some (.int .i64 px) := (Blk.cell kb0 0).trans rfl
  have k0_1 : w0.cell? ⟨w.heap.size, 1, none⟩ = some (.int .i64 py) := (Blk.cell kb0 1).trans rfl
  have k1_0 : w0.cell? ⟨w.heap.size + 1, 0, none⟩ = some (.int .i64 ax) := (Blk.cell kb1 0).trans rfl
  have k1_1 : w0.cell? ⟨w.heap.size + 1, 1, none⟩ = some (.int .i64 ay) := (Blk.cell kb1 1).trans rfl
  have k2_0 : w0.cell? ⟨w.heap.size + 1 + 1, 0, none⟩ = some (.int .i64 bx) := (Blk.cell kb2 0).trans rfl
  have k2_1 : w0.cell? ⟨w.heap.size + 1 + 1, 1, none⟩ = some (.int .i64 by_) := (Blk.cell kb2 1).trans rfl
  clear kb0 kb1 kb2
  have SK : ∀ w', Below w0.heap.size w0 w' → Below w0.heap.size w0 w' ∧ w'.cell? ⟨w.heap.size, 0, none⟩ = some (.int .i64 px) ∧ w'.cell? ⟨w.heap.size, 1, none⟩ = some (.int .i64 py) ∧ w'.cell? ⟨w.heap.size + 1, 0, none⟩ = some (.int .i64 ax) ∧ w'.cell? ⟨w.heap.size + 1, 1, none⟩ = some (.int .i64 ay) ∧ w'.cell? ⟨w.heap.size + 1 + 1, 0, none⟩ = some (.int .i64 bx) ∧ w'.cell? ⟨w.heap.size + 1 + 1, 1, none⟩ = some (.int .i64 by_) := fun w' h => ⟨h, (bcell h _ _ (by omega)).trans k0_0, (bcell h _ _ (by omega)).trans k0_1, (bcell h _ _ (by omega)).trans k1_0, (bcell h _ _ (by omega)).trans k1_1, (bcell h _ _ (by omega)).trans k2_0, (bcell h _ _ (by omega)).trans k2_1⟩
  go_wp2_with fail
  refine (near_any _ _ [(px, py), (ax, ay), (bx, by_)] (Pts3 w0 (px, py) (ax, ay) (bx, by_) _ _) (by simp)).mono ?_
  rw [hall]
  rintro e w1 ⟨rfl, hb1⟩
  have hb1' := (allocs_below w0 [_]).trans (hb1.mono (by simp))
  have hL1 : Below w0.heap.size w0 w1 := hb1'
  obtain ⟨-, c1_0, c1_1, c1_2, c1_3, c1_4, c1_5⟩ := SK _ hL1
  have HS1 := hide (HS.out.below (hb0.trans (hL1.mono hb0.size)) (Nat.le_refl _))
  go_wp2_with fail
  refine (ToLine_any _ px py ax ay bx by_ HS1.out).mono ?_
  rw [hX.out]
  rintro e w2 ⟨rfl, hbw2⟩
  have hL2 : Below w0.heap.size w0 w2 := hL1.trans (hbw2.mono hL1.size)
  obtain ⟨-, c2_0, c2_1, c2_2, c2_3, c2_4, c2_5⟩ := SK _ hL2
  have HS2 := hide (HS.out.below (hb0.trans (hL2.mono hb0.size)) (Nat.le_refl _))
  go_wp2_with fail
  refine (ToSegment_any _ px py ax ay bx by_ HS2.out).mono ?_
  rw [hY.out]
  rintro e w3 ⟨rfl, hbw3⟩
  have hL3 : Below w0.heap.size w0 w3 := hL2.trans (hbw3.mono hL2.size)
  obtain ⟨-, c3_0, c3_1, c3_2, c3_3, c3_4, c3_5⟩ := SK _ hL3
  go_wp2_with fail
  refine (Square_any _ px py ax ay).mono ?_
  rw [E3.out, R3.out]
  rintro e w4 ⟨rfl, hbw4⟩
  have hL4 : Below w0.heap.size w0 w4 := hL3.trans (hbw4.mono hL3.size)
  obtain ⟨-, c4_0, c4_1, c4_2, c4_3, c4_4, c4_5⟩ := SK _ hL4
  go_wp2_with fail
  refine (Square_any _ px py bx by_).mono ?_
  rw [E4.out, R4.out]
  rintro e w5 ⟨rfl, hbw5⟩
  have hL5 : Below w0.heap.size w0 w5 := hL4.trans (hbw5.mono hL4.size)
  obtain ⟨-, c5_0, c5_1, c5_2, c5_3, c5_4, c5_5⟩ := SK _ hL5
  go_upto_region 7 with (fail)
  have Ww60 : IntKind.i64.wrap (bx - ax) = bx - ax := IntWalk.i64_in _ ⟨by omega, by omega⟩
  have Ww61 : IntKind.i64.wrap (by_ - ay) = by_ - ay := IntWalk.i64_in _ ⟨by omega, by omega⟩
  have Ww62 : IntKind.i64.wrap (px - ax) = px - ax := IntWalk.i64_in _ ⟨by omega, by omega⟩
  have Ww63 : IntKind.i64.wrap (py - ay) = py - ay := IntWalk.i64_in _ ⟨by omega, by omega⟩
  have Ww70 : IntKind.i64.wrap (ax - bx) = ax - bx := IntWalk.i64_in _ ⟨by omega, by omega⟩
  have Ww71 : IntKind.i64.wrap (ay - by_) = ay - by_ := IntWalk.i64_in _ ⟨by omega, by omega⟩
  have Ww72 : IntKind.i64.wrap (px - bx) = px - bx := IntWalk.i64_in _ ⟨by omega, by omega⟩
  have Ww73 : IntKind.i64.wrap (py - by_) = py - by_ := IntWalk.i64_in _ ⟨by omega, by omega⟩
  have q5 : w0.heap.size ≤ w5.heap.size := hL5.size
  have SQ5 : ∀ w', Below w5.heap.size w5 w' → Below w5.heap.size w5 w' ∧ w'.cell? ⟨w.heap.size, 0, none⟩ = some (.int .i64 px) ∧ w'.cell? ⟨w.heap.size, 1, none⟩ = some (.int .i64 py) ∧ w'.cell? ⟨w.heap.size + 1, 0, none⟩ = some (.int .i64 ax) ∧ w'.cell? ⟨w.heap.size + 1, 1, none⟩ = some (.int .i64 ay) ∧ w'.cell? ⟨w.heap.size + 1 + 1, 0, none⟩ = some (.int .i64 bx) ∧ w'.cell? ⟨w.heap.size + 1 + 1, 1, none⟩ = some (.int .i64 by_) := fun w' h => ⟨h, (bcell h _ _ (block_lt_of_cell c5_0)).trans c5_0, (bcell h _ _ (block_lt_of_cell c5_1)).trans c5_1, (bcell h _ _ (block_lt_of_cell c5_2)).trans c5_2, (bcell h _ _ (block_lt_of_cell c5_3)).trans c5_3, (bcell h _ _ (block_lt_of_cell c5_4)).trans c5_4, (bcell h _ _ (block_lt_of_cell c5_5)).trans c5_5⟩
  go_region_held3 (fun w' => Below w5.heap.size w5 w' ∧ w'.cell? ⟨w.heap.size, 0, none⟩ = some (.int .i64 px) ∧ w'.cell? ⟨w.heap.size, 1, none⟩ = some (.int .i64 py) ∧ w'.cell? ⟨w.heap.size + 1, 0, none⟩ = some (.int .i64 ax) ∧ w'.cell? ⟨w.heap.size + 1, 1, none⟩ = some (.int .i64 ay) ∧ w'.cell? ⟨w.heap.size + 1 + 1, 0, none⟩ = some (.int .i64 bx) ∧ w'.cell? ⟨w.heap.size + 1 + 1, 1, none⟩ = some (.int .i64 by_)) (first | exact SQ5 _ (Below.refl _ _).drew | exact SQ5 _ (bel_next (by assumption) (by assumption) (Nat.le_refl _)))
    (first
      | (go_at_call_of 28 (.int .i64 (bx - ax) : Value); refine (at_any _ (bx - ax) (by_ - ay)).mono ?_; rintro e w6 ⟨rfl, hbW⟩)
      | (go_at_call_of 28 (.int .i64 (px - ax) : Value); refine (at_any _ (px - ax) (py - ay)).mono ?_; rintro e w6 ⟨rfl, hbW⟩)
      | (go_at_call 34; refine (Dot_any _ (bx - ax) (by_ - ay) (px - ax) (py - ay)).mono ?_; rw [R5.out]; rintro e w6 ⟨rfl, hbW⟩))
  obtain ⟨hH6, c6_0, c6_1, c6_2, c6_3, c6_4, c6_5⟩ : Below w5.heap.size w5 w6 ∧ w6.cell? ⟨w.heap.size, 0, none⟩ = some (.int .i64 px) ∧ w6.cell? ⟨w.heap.size, 1, none⟩ = some (.int .i64 py) ∧ w6.cell? ⟨w.heap.size + 1, 0, none⟩ = some (.int .i64 ax) ∧ w6.cell? ⟨w.heap.size + 1, 1, none⟩ = some (.int .i64 ay) ∧ w6.cell? ⟨w.heap.size + 1 + 1, 0, none⟩ = some (.int .i64 bx) ∧ w6.cell? ⟨w.heap.size + 1 + 1, 1, none⟩ = some (.int .i64 by_) := by assumption
  have hL6 : Below w0.heap.size w0 w6 := hL5.trans (hH6.mono hL5.size)
  clear Ww60 Ww61 Ww62 Ww63
  go_upto_region 8 with (fail)
  have q6 : w0.heap.size ≤ w6.heap.size := hL6.size
  have SQ6 : ∀ w', Below w6.heap.size w6 w' → Below w6.heap.size w6 w' ∧ w'.cell? ⟨w.heap.size, 0, none⟩ = some (.int .i64 px) ∧ w'.cell? ⟨w.heap.size, 1, none⟩ = some (.int .i64 py) ∧ w'.cell? ⟨w.heap.size + 1, 0, none⟩ = some (.int .i64 ax) ∧ w'.cell? ⟨w.heap.size + 1, 1, none⟩ = some (.int .i64 ay) ∧ w'.cell? ⟨w.heap.size + 1 + 1, 0, none⟩ = some (.int .i64 bx) ∧ w'.cell? ⟨w.heap.size + 1 + 1, 1, none⟩ = some (.int .i64 by_) := fun w' h => ⟨h, (bcell h _ _ (block_lt_of_cell c6_0)).trans c6_0, (bcell h _ _ (block_lt_of_cell c6_1)).trans c6_1, (bcell h _ _ (block_lt_of_cell c6_2)).trans c6_2, (bcell h _ _ (block_lt_of_cell c6_3)).trans c6_3, (bcell h _ _ (block_lt_of_cell c6_4)).trans c6_4, (bcell h _ _ (block_lt_of_cell c6_5)).trans c6_5⟩
  go_region_held3 (fun w' => Below w6.heap.size w6 w' ∧ w'.cell? ⟨w.heap.size, 0, none⟩ = some (.int .i64 px) ∧ w'.cell? ⟨w.heap.size, 1, none⟩ = some (.int .i64 py) ∧ w'.cell? ⟨w.heap.size + 1, 0, none⟩ = some (.int .i64 ax) ∧ w'.cell? ⟨w.heap.size + 1, 1, none⟩ = some (.int .i64 ay) ∧ w'.cell? ⟨w.heap.size + 1 + 1, 0, none⟩ = some (.int .i64 bx) ∧ w'.cell? ⟨w.heap.size + 1 + 1, 1, none⟩ = some (.int .i64 by_)) (first | exact SQ6 _ (Below.refl _ _).drew | exact SQ6 _ (bel_next (by assumption) (by assumption) (Nat.le_refl _)))
    (first
      | (go_at_call_of 28 (.int .i64 (ax - bx) : Value); refine (at_any _ (ax - bx) (ay - by_)).mono ?_; rintro e w7 ⟨rfl, hbW⟩)
      | (go_at_call_of 28 (.int .i64 (px - bx) : Value); refine (at_any _ (px - bx) (py - by_)).mono ?_; rintro e w7 ⟨rfl, hbW⟩)
      | (go_at_call 34; refine (Dot_any _ (ax - bx) (ay - by_) (px - bx) (py - by_)).mono ?_; rw [R6.out]; rintro e w7 ⟨rfl, hbW⟩))
  obtain ⟨hH7, c7_0, c7_1, c7_2, c7_3, c7_4, c7_5⟩ : Below w6.heap.size w6 w7 ∧ w7.cell? ⟨w.heap.size, 0, none⟩ = some (.int .i64 px) ∧ w7.cell? ⟨w.heap.size, 1, none⟩ = some (.int .i64 py) ∧ w7.cell? ⟨w.heap.size + 1, 0, none⟩ = some (.int .i64 ax) ∧ w7.cell? ⟨w.heap.size + 1, 1, none⟩ = some (.int .i64 ay) ∧ w7.cell? ⟨w.heap.size + 1 + 1, 0, none⟩ = some (.int .i64 bx) ∧ w7.cell? ⟨w.heap.size + 1 + 1, 1, none⟩ = some (.int .i64 by_) := by assumption
  have hL7 : Below w0.heap.size w0 w7 := hL6.trans (hH7.mono hL6.size)
  clear Ww70 Ww71 Ww72 Ww73
  have HS3 := hide (HS.out.below (hb0.trans (hL7.mono hb0.size)) (Nat.le_refl _))
  go_wp2_with fail
  refine (rcompare_any _ _ _ x y rfl rfl HN.out.fx HN.out.fy HS3.out).mono ?_
  rw [HN.out.cx]
  rintro e w8 ⟨rfl, hbw8⟩
  have hL8 : Below w0.heap.size w0 w8 := hL7.trans (hbw8.mono hL7.size)
  obtain ⟨-, c8_0, c8_1, c8_2, c8_3, c8_4, c8_5⟩ := SK _ hL8
  go_wp2_with fail
  refine (r2whole_any (min ((px - ax) * (px - ax) + (py - ay) * (py - ay)) ((px - bx) * (px - bx) + (py - by_) * (py - by_))) Q0.out Q1.out _).mono ?_
  rintro e w9 ⟨rfl, hbw9⟩
  have hL9 : Below w0.heap.size w0 w9 := hL8.trans (hbw9.mono hL8.size)
  obtain ⟨-, c9_0, c9_1, c9_2, c9_3, c9_4, c9_5⟩ := SK _ hL9
  have HS4 := hide (HS.out.below (hb0.trans (hL9.mono hb0.size)) (Nat.le_refl _))
  go_wp2_with fail
  refine (rcompare_any _ _ _ y ((min ((px - ax) * (px - ax) + (py - ay) * (py - ay)) ((px - bx) * (px - bx) + (py - by_) * (py - by_)) : Int) : Rat) rfl rfl HN.out.fy Q2.out HS4.out).mono ?_
  rw [HN.out.cy]
  rintro e w10 ⟨rfl, hbw10⟩
  have hL10 : Below w0.heap.size w0 w10 := hL9.trans (hbw10.mono hL9.size)
  obtain ⟨-, c10_0, c10_1, c10_2, c10_3, c10_4, c10_5⟩ := SK _ hL10
  have HSa := hide (HS.out.below (hb0.trans (hL10.mono hb0.size)) (Nat.le_refl _))
  go_wp2_with fail
  refine (awake_any _ HSa.out).mono ?_
  rintro e w11 ⟨rfl, hbw11⟩
  have hL11 : Below w0.heap.size w0 w11 := hL10.trans (hbw11.mono hL10.size)
  obtain ⟨-, c11_0, c11_1, c11_2, c11_3, c11_4, c11_5⟩ := SK _ hL11
  go_wp2_with fail
  go_ret
  exact ⟨rfl, hb0.trans (hL11.mono hb0.size)⟩

set_option maxRecDepth 100000 in
set_option maxHeartbeats 8000000 in
theorem nearer_yv (w : World) (px py ax ay bx by_ : Int) (hall : [(px, py), (ax, ay), (bx, by_)].all smP = true) (_h1 : (ax = bx) = True) (_h2 : (ay = by_) = False) (x y : Rat) (r f : Int) (hN : Nearer px py ax ay bx by_ x y r f) (hsm : Sm px py ∧ Sm ax ay ∧ Sm bx by_) (hl0 : ¬ (bx - ax) * (px - ax) + (by_ - ay) * (py - ay) < 0) (hl : (ax - bx) * (px - bx) + (ay - by_) * (py - by_) < 0) (hs : Std w) : Calls Tryz.prog 10 #[.agg #[.int .i64 px, .int .i64 py], .agg #[.int .i64 ax, .int .i64 ay], .agg #[.int .i64 bx, .int .i64 by_]] w fun e w' => e = .returned (.bool true) ∧ Below w.heap.size w w' := by
  have HS := hide hs
  clear hs
  have HN := hide hN
  have r0 := hN.r0
  have f0 := hN.f0
  have hok : Co px ∧ Co py ∧ Co ax ∧ Co ay ∧ Co bx ∧ Co by_ := by omega
  have OKp := hide hok
  clear hN hok
  have hX := hide (show RR (lineR px py ax ay bx by_) = .tuple #[.string ⟨(RT x).toArray⟩, .int .i64 0] by rw [HN.out.lx]; rfl)
  have hY := hide (show RR (segR px py ax ay bx by_) = .tuple #[.string ⟨(RT y).toArray⟩, .int .i64 0] by rw [HN.out.ly]; rfl)
  obtain ⟨m0a, m0b⟩ := mulB (x := px - ax) (y := px - ax) (M := 18000) (N := 18000) (by omega) (by omega)
  obtain ⟨m1a, m1b⟩ := mulB (x := py - ay) (y := py - ay) (M := 18000) (N := 18000) (by omega) (by omega)
  obtain ⟨m2a, m2b⟩ := mulB (x := px - bx) (y := px - bx) (M := 18000) (N := 18000) (by omega) (by omega)
  obtain ⟨m3a, m3b⟩ := mulB (x := py - by_) (y := py - by_) (M := 18000) (N := 18000) (by omega) (by omega)
  have Q0 := hide (p := -9223372036854775808 ≤ min ((px - ax) * (px - ax) + (py - ay) * (py - ay)) ((px - bx) * (px - bx) + (py - by_) * (py - by_))) (by omega)
  have Q1 := hide (p := min ((px - ax) * (px - ax) + (py - ay) * (py - ay)) ((px - bx) * (px - bx) + (py - by_) * (py - by_)) ≤ 9223372036854775807) (by omega)
  have Q2 := hide (fit_int (k := min ((px - ax) * (px - ax) + (py - ay) * (py - ay)) ((px - bx) * (px - bx) + (py - by_) * (py - by_))) (by omega))
  clear m0a m0b m1a m1b m2a m2b m3a m3b
  have R3 := hide (show R2 ((ax - px) * (ax - px) + (ay - py) * (ay - py)) (Co px ∧ Co py ∧ Co ax ∧ Co ay) = .tuple #[.int .i64 ((ax - px) * (ax - px) + (ay - py) * (ay - py)), .int .i64 0] from R2_pos _ (by omega))
  have R4 := hide (show R2 ((bx - px) * (bx - px) + (by_ - py) * (by_ - py)) (Co px ∧ Co py ∧ Co bx ∧ Co by_) = .tuple #[.int .i64 ((bx - px) * (bx - px) + (by_ - py) * (by_ - py)), .int .i64 0] from R2_pos _ (by omega))
  have e3 : (ax - px) * (ax - px) + (ay - py) * (ay - py) = (px - ax) * (px - ax) + (py - ay) * (py - ay) := by grind
  have e4 : (bx - px) * (bx - px) + (by_ - py) * (by_ - py) = (px - bx) * (px - bx) + (py - by_) * (py - by_) := by grind
  rw [e3] at R3
  rw [e4] at R4
  have E3 := hide e3
  have E4 := hide e4
  clear e3 e4
  have R5 := hide (show R2 ((bx - ax) * (px - ax) + (by_ - ay) * (py - ay)) (Co (bx - ax) ∧ Co (by_ - ay) ∧ Co (px - ax) ∧ Co (py - ay)) = .tuple #[.int .i64 ((bx - ax) * (px - ax) + (by_ - ay) * (py - ay)), .int .i64 0] from R2_pos _ (by omega))
  have R6 := hide (show R2 ((ax - bx) * (px - bx) + (ay - by_) * (py - by_)) (Co (ax - bx) ∧ Co (ay - by_) ∧ Co (px - bx) ∧ Co (py - by_)) = .tuple #[.int .i64 ((ax - bx) * (px - bx) + (ay - by_) * (py - by_)), .int .i64 0] from R2_pos _ (by omega))
  go_enter Tryz.func10, Tryz.ntmps10
  go_upto_region 1 with (fail)
  have hb0 : Below w.heap.size w (((w.alloc (.cells #[.int .i64 px, .int .i64 py] 23)).alloc (.cells #[.int .i64 ax, .int .i64 ay] 23)).alloc (.cells #[.int .i64 bx, .int .i64 by_] 23)) := allocs_below w [(.cells #[.int .i64 px, .int .i64 py] 23), (.cells #[.int .i64 ax, .int .i64 ay] 23), (.cells #[.int .i64 bx, .int .i64 by_] 23)]
  have s0 : w.heap.size + 3 ≤ (((w.alloc (.cells #[.int .i64 px, .int .i64 py] 23)).alloc (.cells #[.int .i64 ax, .int .i64 ay] 23)).alloc (.cells #[.int .i64 bx, .int .i64 by_] 23)).heap.size := Nat.le_of_eq (allocs_size w [(.cells #[.int .i64 px, .int .i64 py] 23), (.cells #[.int .i64 ax, .int .i64 ay] 23), (.cells #[.int .i64 bx, .int .i64 by_] 23)]).symm
  have kb0 : (((w.alloc (.cells #[.int .i64 px, .int .i64 py] 23)).alloc (.cells #[.int .i64 ax, .int .i64 ay] 23)).alloc (.cells #[.int .i64 bx, .int .i64 by_] 23)).heap[w.heap.size + 0]? = some (.cells #[.int .i64 px, .int .i64 py] 23) := allocs_at w [(.cells #[.int .i64 px, .int .i64 py] 23), (.cells #[.int .i64 ax, .int .i64 ay] 23), (.cells #[.int .i64 bx, .int .i64 by_] 23)] 0 rfl
  have kb1 : (((w.alloc (.cells #[.int .i64 px, .int .i64 py] 23)).alloc (.cells #[.int .i64 ax, .int .i64 ay] 23)).alloc (.cells #[.int .i64 bx, .int .i64 by_] 23)).heap[w.heap.size + 1]? = some (.cells #[.int .i64 ax, .int .i64 ay] 23) := allocs_at w [(.cells #[.int .i64 px, .int .i64 py] 23), (.cells #[.int .i64 ax, .int .i64 ay] 23), (.cells #[.int .i64 bx, .int .i64 by_] 23)] 1 rfl
  have kb2 : (((w.alloc (.cells #[.int .i64 px, .int .i64 py] 23)).alloc (.cells #[.int .i64 ax, .int .i64 ay] 23)).alloc (.cells #[.int .i64 bx, .int .i64 by_] 23)).heap[w.heap.size + 2]? = some (.cells #[.int .i64 bx, .int .i64 by_] 23) := allocs_at w [(.cells #[.int .i64 px, .int .i64 py] 23), (.cells #[.int .i64 ax, .int .i64 ay] 23), (.cells #[.int .i64 bx, .int .i64 by_] 23)] 2 rfl
  generalize (((w.alloc (.cells #[.int .i64 px, .int .i64 py] 23)).alloc (.cells #[.int .i64 ax, .int .i64 ay] 23)).alloc (.cells #[.int .i64 bx, .int .i64 by_] 23)) = w0 at *
  have k0_0 : w0.cell? ⟨w.heap.size, 0, none⟩ = some (.int .i64 px) := (Blk.cell kb0 0).trans rfl
  have k0_1 : w0.cell? ⟨w.heap.size, 1, none⟩ = some (.int .i64 py) := (Blk.cell kb0 1).trans rfl
  have k1_0 : w0.cell? ⟨w.heap.size + 1, 0, none⟩ = some (.int .i64 ax) := (Blk.cell kb1 0).trans rfl
  have k1_1 : w0.cell? ⟨w.heap.size + 1, 1, none⟩ = some (.int .i64 ay) := (Blk.cell kb1 1).trans rfl
  have k2_0 : w0.cell? ⟨w.heap.size + 1 + 1, 0, none⟩ = some (.int .i64 bx) := (Blk.cell kb2 0).trans rfl
  have k2_1 : w0.cell? ⟨w.heap.size + 1 + 1, 1, none⟩ = some (.int .i64 by_) := (Blk.cell kb2 1).trans rfl
  clear kb0 kb1 kb2
  have SK : ∀ w', Below w0.heap.size w0 w' → Below w0.heap.size w0 w' ∧ w'.cell? ⟨w.heap.size, 0, none⟩ = some (.int .i64 px) ∧ w'.cell? ⟨w.heap.size, 1, none⟩ = some (.int .i64 py) ∧ w'.cell? ⟨w.heap.size + 1, 0, none⟩ = some (.int .i64 ax) ∧ w'.cell? ⟨w.heap.size + 1, 1, none⟩ = some (.int .i64 ay) ∧ w'.cell? ⟨w.heap.size + 1 + 1, 0, none⟩ = some (.int .i64 bx) ∧ w'.cell? ⟨w.heap.size + 1 + 1, 1, none⟩ = some (.int .i64 by_) := fun w' h => ⟨h, (bcell h _ _ (by omega)).trans k0_0, (bcell h _ _ (by omega)).trans k0_1, (bcell h _ _ (by omega)).trans k1_0, (bcell h _ _ (by omega)).trans k1_1, (bcell h _ _ (by omega)).trans k2_0, (bcell h _ _ (by omega)).trans k2_1⟩
  go_wp2_with fail
  refine (near_any _ _ [(px, py), (ax, ay), (bx, by_)] (Pts3 w0 (px, py) (ax, ay) (bx, by_) _ _) (by simp)).mono ?_
  rw [hall]
  rintro e w1 ⟨rfl, hb1⟩
  have hb1' := (allocs_below w0 [_]).trans (hb1.mono (by simp))
  have hL1 : Below w0.heap.size w0 w1 := hb1'
  obtain ⟨-, c1_0, c1_1, c1_2, c1_3, c1_4, c1_5⟩ := SK _ hL1
  have HS1 := hide (HS.out.below (hb0.trans (hL1.mono hb0.size)) (Nat.le_refl _))
  go_wp2_with fail
  refine (ToLine_any _ px py ax ay bx by_ HS1.out).mono ?_
  rw [hX.out]
  rintro e w2 ⟨rfl, hbw2⟩
  have hL2 : Below w0.heap.size w0 w2 := hL1.trans (hbw2.mono hL1.size)
  obtain ⟨-, c2_0, c2_1, c2_2, c2_3, c2_4, c2_5⟩ := SK _ hL2
  have HS2 := hide (HS.out.below (hb0.trans (hL2.mono hb0.size)) (Nat.le_refl _))
  go_wp2_with fail
  refine (ToSegment_any _ px py ax ay bx by_ HS2.out).mono ?_
  rw [hY.out]
  rintro e w3 ⟨rfl, hbw3⟩
  have hL3 : Below w0.heap.size w0 w3 := hL2.trans (hbw3.mono hL2.size)
  obtain ⟨-, c3_0, c3_1, c3_2, c3_3, c3_4, c3_5⟩ := SK _ hL3
  go_wp2_with fail
  refine (Square_any _ px py ax ay).mono ?_
  rw [E3.out, R3.out]
  rintro e w4 ⟨rfl, hbw4⟩
  have hL4 : Below w0.heap.size w0 w4 := hL3.trans (hbw4.mono hL3.size)
  obtain ⟨-, c4_0, c4_1, c4_2, c4_3, c4_4, c4_5⟩ := SK _ hL4
  go_wp2_with fail
  refine (Square_any _ px py bx by_).mono ?_
  rw [E4.out, R4.out]
  rintro e w5 ⟨rfl, hbw5⟩
  have hL5 : Below w0.heap.size w0 w5 := hL4.trans (hbw5.mono hL4.size)
  obtain ⟨-, c5_0, c5_1, c5_2, c5_3, c5_4, c5_5⟩ := SK _ hL5
  go_upto_region 7 with (fail)
  have Ww60 : IntKind.i64.wrap (bx - ax) = bx - ax := IntWalk.i64_in _ ⟨by omega, by omega⟩
  have Ww61 : IntKind.i64.wrap (by_ - ay) = by_ - ay := IntWalk.i64_in _ ⟨by omega, by omega⟩
  have Ww62 : IntKind.i64.wrap (px - ax) = px - ax := IntWalk.i64_in _ ⟨by omega, by omega⟩
  have Ww63 : IntKind.i64.wrap (py - ay) = py - ay := IntWalk.i64_in _ ⟨by omega, by omega⟩
  have Ww70 : IntKind.i64.wrap (ax - bx) = ax - bx := IntWalk.i64_in _ ⟨by omega, by omega⟩
  have Ww71 : IntKind.i64.wrap (ay - by_) = ay - by_ := IntWalk.i64_in _ ⟨by omega, by omega⟩
  have Ww72 : IntKind.i64.wrap (px - bx) = px - bx := IntWalk.i64_in _ ⟨by omega, by omega⟩
  have Ww73 : IntKind.i64.wrap (py - by_) = py - by_ := IntWalk.i64_in _ ⟨by omega, by omega⟩
  have q5 : w0.heap.size ≤ w5.heap.size := hL5.size
  have SQ5 : ∀ w', Below w5.heap.size w5 w' → Below w5.heap.size w5 w' ∧ w'.cell? ⟨w.heap.size, 0, none⟩ = some (.int .i64 px) ∧ w'.cell? ⟨w.heap.size, 1, none⟩ = some (.int .i64 py) ∧ w'.cell? ⟨w.heap.size + 1, 0, none⟩ = some (.int .i64 ax) ∧ w'.cell? ⟨w.heap.size + 1, 1, none⟩ = some (.int .i64 ay) ∧ w'.cell? ⟨w.heap.size + 1 + 1, 0, none⟩ = some (.int .i64 bx) ∧ w'.cell? ⟨w.heap.size + 1 + 1, 1, none⟩ = some (.int .i64 by_) := fun w' h => ⟨h, (bcell h _ _ (block_lt_of_cell c5_0)).trans c5_0, (bcell h _ _ (block_lt_of_cell c5_1)).trans c5_1, (bcell h _ _ (block_lt_of_cell c5_2)).trans c5_2, (bcell h _ _ (block_lt_of_cell c5_3)).trans c5_3, (bcell h _ _ (block_lt_of_cell c5_4)).trans c5_4, (bcell h _ _ (block_lt_of_cell c5_5)).trans c5_5⟩
  go_region_held3 (fun w' => Below w5.heap.size w5 w' ∧ w'.cell? ⟨w.heap.size, 0, none⟩ = some (.int .i64 px) ∧ w'.cell? ⟨w.heap.size, 1, none⟩ = some (.int .i64 py) ∧ w'.cell? ⟨w.heap.size + 1, 0, none⟩ = some (.int .i64 ax) ∧ w'.cell? ⟨w.heap.size + 1, 1, none⟩ = some (.int .i64 ay) ∧ w'.cell? ⟨w.heap.size + 1 + 1, 0, none⟩ = some (.int .i64 bx) ∧ w'.cell? ⟨w.heap.size + 1 + 1, 1, none⟩ = some (.int .i64 by_)) (first | exact SQ5 _ (Below.refl _ _).drew | exact SQ5 _ (bel_next (by assumption) (by assumption) (Nat.le_refl _)))
    (first
      | (go_at_call_of 28 (.int .i64 (bx - ax) : Value); refine (at_any _ (bx - ax) (by_ - ay)).mono ?_; rintro e w6 ⟨rfl, hbW⟩)
      | (go_at_call_of 28 (.int .i64 (px - ax) : Value); refine (at_any _ (px - ax) (py - ay)).mono ?_; rintro e w6 ⟨rfl, hbW⟩)
      | (go_at_call 34; refine (Dot_any _ (bx - ax) (by_ - ay) (px - ax) (py - ay)).mono ?_; rw [R5.out]; rintro e w6 ⟨rfl, hbW⟩))
  obtain ⟨hH6, c6_0, c6_1, c6_2, c6_3, c6_4, c6_5⟩ : Below w5.heap.size w5 w6 ∧ w6.cell? ⟨w.heap.size, 0, none⟩ = some (.int .i64 px) ∧ w6.cell? ⟨w.heap.size, 1, none⟩ = some (.int .i64 py) ∧ w6.cell? ⟨w.heap.size + 1, 0, none⟩ = some (.int .i64 ax) ∧ w6.cell? ⟨w.heap.size + 1, 1, none⟩ = some (.int .i64 ay) ∧ w6.cell? ⟨w.heap.size + 1 + 1, 0, none⟩ = some (.int .i64 bx) ∧ w6.cell? ⟨w.heap.size + 1 + 1, 1, none⟩ = some (.int .i64 by_) := by assumption
  have hL6 : Below w0.heap.size w0 w6 := hL5.trans (hH6.mono hL5.size)
  clear Ww60 Ww61 Ww62 Ww63
  go_upto_region 8 with (fail)
  have q6 : w0.heap.size ≤ w6.heap.size := hL6.size
  have SQ6 : ∀ w', Below w6.heap.size w6 w' → Below w6.heap.size w6 w' ∧ w'.cell? ⟨w.heap.size, 0, none⟩ = some (.int .i64 px) ∧ w'.cell? ⟨w.heap.size, 1, none⟩ = some (.int .i64 py) ∧ w'.cell? ⟨w.heap.size + 1, 0, none⟩ = some (.int .i64 ax) ∧ w'.cell? ⟨w.heap.size + 1, 1, none⟩ = some (.int .i64 ay) ∧ w'.cell? ⟨w.heap.size + 1 + 1, 0, none⟩ = some (.int .i64 bx) ∧ w'.cell? ⟨w.heap.size + 1 + 1, 1, none⟩ = some (.int .i64 by_) := fun w' h => ⟨h, (bcell h _ _ (block_lt_of_cell c6_0)).trans c6_0, (bcell h _ _ (block_lt_of_cell c6_1)).trans c6_1, (bcell h _ _ (block_lt_of_cell c6_2)).trans c6_2, (bcell h _ _ (block_lt_of_cell c6_3)).trans c6_3, (bcell h _ _ (block_lt_of_cell c6_4)).trans c6_4, (bcell h _ _ (block_lt_of_cell c6_5)).trans c6_5⟩
  go_region_held3 (fun w' => Below w6.heap.size w6 w' ∧ w'.cell? ⟨w.heap.size, 0, none⟩ = some (.int .i64 px) ∧ w'.cell? ⟨w.heap.size, 1, none⟩ = some (.int .i64 py) ∧ w'.cell? ⟨w.heap.size + 1, 0, none⟩ = some (.int .i64 ax) ∧ w'.cell? ⟨w.heap.size + 1, 1, none⟩ = some (.int .i64 ay) ∧ w'.cell? ⟨w.heap.size + 1 + 1, 0, none⟩ = some (.int .i64 bx) ∧ w'.cell? ⟨w.heap.size + 1 + 1, 1, none⟩ = some (.int .i64 by_)) (first | exact SQ6 _ (Below.refl _ _).drew | exact SQ6 _ (bel_next (by assumption) (by assumption) (Nat.le_refl _)))
    (first
      | (go_at_call_of 28 (.int .i64 (ax - bx) : Value); refine (at_any _ (ax - bx) (ay - by_)).mono ?_; rintro e w7 ⟨rfl, hbW⟩)
      | (go_at_call_of 28 (.int .i64 (px - bx) : Value); refine (at_any _ (px - bx) (py - by_)).mono ?_; rintro e w7 ⟨rfl, hbW⟩)
      | (go_at_call 34; refine (Dot_any _ (ax - bx) (ay - by_) (px - bx) (py - by_)).mono ?_; rw [R6.out]; rintro e w7 ⟨rfl, hbW⟩))
  obtain ⟨hH7, c7_0, c7_1, c7_2, c7_3, c7_4, c7_5⟩ : Below w6.heap.size w6 w7 ∧ w7.cell? ⟨w.heap.size, 0, none⟩ = some (.int .i64 px) ∧ w7.cell? ⟨w.heap.size, 1, none⟩ = some (.int .i64 py) ∧ w7.cell? ⟨w.heap.size + 1, 0, none⟩ = some (.int .i64 ax) ∧ w7.cell? ⟨w.heap.size + 1, 1, none⟩ = some (.int .i64 ay) ∧ w7.cell? ⟨w.heap.size + 1 + 1, 0, none⟩ = some (.int .i64 bx) ∧ w7.cell? ⟨w.heap.size + 1 + 1, 1, none⟩ = some (.int .i64 by_) := by assumption
  have hL7 : Below w0.heap.size w0 w7 := hL6.trans (hH7.mono hL6.size)
  clear Ww70 Ww71 Ww72 Ww73
  have HS3 := hide (HS.out.below (hb0.trans (hL7.mono hb0.size)) (Nat.le_refl _))
  go_wp2_with fail
  refine (rcompare_any _ _ _ x y rfl rfl HN.out.fx HN.out.fy HS3.out).mono ?_
  rw [HN.out.cx]
  rintro e w8 ⟨rfl, hbw8⟩
  have hL8 : Below w0.heap.size w0 w8 := hL7.trans (hbw8.mono hL7.size)
  obtain ⟨-, c8_0, c8_1, c8_2, c8_3, c8_4, c8_5⟩ := SK _ hL8
  go_wp2_with fail
  refine (r2whole_any (min ((px - ax) * (px - ax) + (py - ay) * (py - ay)) ((px - bx) * (px - bx) + (py - by_) * (py - by_))) Q0.out Q1.out _).mono ?_
  rintro e w9 ⟨rfl, hbw9⟩
  have hL9 : Below w0.heap.size w0 w9 := hL8.trans (hbw9.mono hL8.size)
  obtain ⟨-, c9_0, c9_1, c9_2, c9_3, c9_4, c9_5⟩ := SK _ hL9
  have HS4 := hide (HS.out.below (hb0.trans (hL9.mono hb0.size)) (Nat.le_refl _))
  go_wp2_with fail
  refine (rcompare_any _ _ _ y ((min ((px - ax) * (px - ax) + (py - ay) * (py - ay)) ((px - bx) * (px - bx) + (py - by_) * (py - by_)) : Int) : Rat) rfl rfl HN.out.fy Q2.out HS4.out).mono ?_
  rw [HN.out.cy]
  rintro e w10 ⟨rfl, hbw10⟩
  have hL10 : Below w0.heap.size w0 w10 := hL9.trans (hbw10.mono hL9.size)
  obtain ⟨-, c10_0, c10_1, c10_2, c10_3, c10_4, c10_5⟩ := SK _ hL10
  have HSa := hide (HS.out.below (hb0.trans (hL10.mono hb0.size)) (Nat.le_refl _))
  go_wp2_with fail
  refine (awake_any _ HSa.out).mono ?_
  rintro e w11 ⟨rfl, hbw11⟩
  have hL11 : Below w0.heap.size w0 w11 := hL10.trans (hbw11.mono hL10.size)
  obtain ⟨-, c11_0, c11_1, c11_2, c11_3, c11_4, c11_5⟩ := SK _ hL11
  go_wp2_with fail
  go_ret
  exact ⟨rfl, hb0.trans (hL11.mono hb0.size)⟩

set_option maxRecDepth 100000 in
set_option maxHeartbeats 8000000 in
theorem nearer_yr (w : World) (px py ax ay bx by_ : Int) (hall : [(px, py), (ax, ay), (bx, by_)].all smP = true) (_h1 : (ax = bx) = True) (_h2 : (ay = by_) = False) (x y : Rat) (r f : Int) (hN : Nearer px py ax ay bx by_ x y r f) (hsm : Sm px py ∧ Sm ax ay ∧ Sm bx by_) (hl0 : ¬ (bx - ax) * (px - ax) + (by_ - ay) * (py - ay) < 0) (hl1 : ¬ (ax - bx) * (px - bx) + (ay - by_) * (py - by_) < 0) (hl : (r == 0) = true) (hs : Std w) : Calls Tryz.prog 10 #[.agg #[.int .i64 px, .int .i64 py], .agg #[.int .i64 ax, .int .i64 ay], .agg #[.int .i64 bx, .int .i64 by_]] w fun e w' => e = .returned (.bool true) ∧ Below w.heap.size w w' := by
  have HS := hide hs
  clear hs
  have HN := hide hN
  have r0 := hN.r0
  have f0 := hN.f0
  have hok : Co px ∧ Co py ∧ Co ax ∧ Co ay ∧ Co bx ∧ Co by_ := by omega
  have OKp := hide hok
  clear hN hok
  have hX := hide (show RR (lineR px py ax ay bx by_) = .tuple #[.string ⟨(RT x).toArray⟩, .int .i64 0] by rw [HN.out.lx]; rfl)
  have hY := hide (show RR (segR px py ax ay bx by_) = .tuple #[.string ⟨(RT y).toArray⟩, .int .i64 0] by rw [HN.out.ly]; rfl)
  obtain ⟨m0a, m0b⟩ := mulB (x := px - ax) (y := px - ax) (M := 18000) (N := 18000) (by omega) (by omega)
  obtain ⟨m1a, m1b⟩ := mulB (x := py - ay) (y := py - ay) (M := 18000) (N := 18000) (by omega) (by omega)
  obtain ⟨m2a, m2b⟩ := mulB (x := px - bx) (y := px - bx) (M := 18000) (N := 18000) (by omega) (by omega)
  obtain ⟨m3a, m3b⟩ := mulB (x := py - by_) (y := py - by_) (M := 18000) (N := 18000) (by omega) (by omega)
  have Q0 := hide (p := -9223372036854775808 ≤ min ((px - ax) * (px - ax) + (py - ay) * (py - ay)) ((px - bx) * (px - bx) + (py - by_) * (py - by_))) (by omega)
  have Q1 := hide (p := min ((px - ax) * (px - ax) + (py - ay) * (py - ay)) ((px - bx) * (px - bx) + (py - by_) * (py - by_)) ≤ 9223372036854775807) (by omega)
  have Q2 := hide (fit_int (k := min ((px - ax) * (px - ax) + (py - ay) * (py - ay)) ((px - bx) * (px - bx) + (py - by_) * (py - by_))) (by omega))
  clear m0a m0b m1a m1b m2a m2b m3a m3b
  have R3 := hide (show R2 ((ax - px) * (ax - px) + (ay - py) * (ay - py)) (Co px ∧ Co py ∧ Co ax ∧ Co ay) = .tuple #[.int .i64 ((ax - px) * (ax - px) + (ay - py) * (ay - py)), .int .i64 0] from R2_pos _ (by omega))
  have R4 := hide (show R2 ((bx - px) * (bx - px) + (by_ - py) * (by_ - py)) (Co px ∧ Co py ∧ Co bx ∧ Co by_) = .tuple #[.int .i64 ((bx - px) * (bx - px) + (by_ - py) * (by_ - py)), .int .i64 0] from R2_pos _ (by omega))
  have e3 : (ax - px) * (ax - px) + (ay - py) * (ay - py) = (px - ax) * (px - ax) + (py - ay) * (py - ay) := by grind
  have e4 : (bx - px) * (bx - px) + (by_ - py) * (by_ - py) = (px - bx) * (px - bx) + (py - by_) * (py - by_) := by grind
  rw [e3] at R3
  rw [e4] at R4
  have E3 := hide e3
  have E4 := hide e4
  clear e3 e4
  have R5 := hide (show R2 ((bx - ax) * (px - ax) + (by_ - ay) * (py - ay)) (Co (bx - ax) ∧ Co (by_ - ay) ∧ Co (px - ax) ∧ Co (py - ay)) = .tuple #[.int .i64 ((bx - ax) * (px - ax) + (by_ - ay) * (py - ay)), .int .i64 0] from R2_pos _ (by omega))
  have R6 := hide (show R2 ((ax - bx) * (px - bx) + (ay - by_) * (py - by_)) (Co (ax - bx) ∧ Co (ay - by_) ∧ Co (px - bx) ∧ Co (py - by_)) = .tuple #[.int .i64 ((ax - bx) * (px - bx) + (ay - by_) * (py - by_)), .int .i64 0] from R2_pos _ (by omega))
  go_enter Tryz.func10, Tryz.ntmps10
  go_upto_region 1 with (fail)
  have hb0 : Below w.heap.size w (((w.alloc (.cells #[.int .i64 px, .int .i64 py] 23)).alloc (.cells #[.int .i64 ax, .int .i64 ay] 23)).alloc (.cells #[.int .i64 bx, .int .i64 by_] 23)) := allocs_below w [(.cells #[.int .i64 px, .int .i64 py] 23), (.cells #[.int .i64 ax, .int .i64 ay] 23), (.cells #[.int .i64 bx, .int .i64 by_] 23)]
  have s0 : w.heap.size + 3 ≤ (((w.alloc (.cells #[.int .i64 px, .int .i64 py] 23)).alloc (.cells #[.int .i64 ax, .int .i64 ay] 23)).alloc (.cells #[.int .i64 bx, .int .i64 by_] 23)).heap.size := Nat.le_of_eq (allocs_size w [(.cells #[.int .i64 px, .int .i64 py] 23), (.cells #[.int .i64 ax, .int .i64 ay] 23), (.cells #[.int .i64 bx, .int .i64 by_] 23)]).symm
  have kb0 : (((w.alloc (.cells #[.int .i64 px, .int .i64 py] 23)).alloc (.cells #[.int .i64 ax, .int .i64 ay] 23)).alloc (.cells #[.int .i64 bx, .int .i64 by_] 23)).heap[w.heap.size + 0]? = some (.cells #[.int .i64 px, .int .i64 py] 23) := allocs_at w [(.cells #[.int .i64 px, .int .i64 py] 23), (.cells #[.int .i64 ax, .int .i64 ay] 23), (.cells #[.int .i64 bx, .int .i64 by_] 23)] 0 rfl
  have kb1 : (((w.alloc (.cells #[.int .i64 px, .int .i64 py] 23)).alloc (.cells #[.int .i64 ax, .int .i64 ay] 23)).alloc (.cells #[.int .i64 bx, .int .i64 by_] 23)).heap[w.heap.size + 1]? = some (.cells #[.int .i64 ax, .int .i64 ay] 23) := allocs_at w [(.cells #[.int .i64 px, .int .i64 py] 23), (.cells #[.int .i64 ax, .int .i64 ay] 23), (.cells #[.int .i64 bx, .int .i64 by_] 23)] 1 rfl
  have kb2 : (((w.alloc (.cells #[.int .i64 px, .int .i64 py] 23)).alloc (.cells #[.int .i64 ax, .int .i64 ay] 23)).alloc (.cells #[.int .i64 bx, .int .i64 by_] 23)).heap[w.heap.size + 2]? = some (.cells #[.int .i64 bx, .int .i64 by_] 23) := allocs_at w [(.cells #[.int .i64 px, .int .i64 py] 23), (.cells #[.int .i64 ax, .int .i64 ay] 23), (.cells #[.int .i64 bx, .int .i64 by_] 23)] 2 rfl
  generalize (((w.alloc (.cells #[.int .i64 px, .int .i64 py] 23)).alloc (.cells #[.int .i64 ax, .int .i64 ay] 23)).alloc (.cells #[.int .i64 bx, .int .i64 by_] 23)) = w0 at *
  have k0_0 : w0.cell? ⟨w.heap.size, 0, none⟩ = some (.int .i64 px) := (Blk.cell kb0 0).trans rfl
  have k0_1 : w0.cell? ⟨w.heap.size, 1, none⟩ = some (.int .i64 py) := (Blk.cell kb0 1).trans rfl
  have k1_0 : w0.cell? ⟨w.heap.size + 1, 0, none⟩ = some (.int .i64 ax) := (Blk.cell kb1 0).trans rfl
  have k1_1 : w0.cell? ⟨w.heap.size + 1, 1, none⟩ = some (.int .i64 ay) := (Blk.cell kb1 1).trans rfl
  have k2_0 : w0.cell? ⟨w.heap.size + 1 + 1, 0, none⟩ = some (.int .i64 bx) := (Blk.cell kb2 0).trans rfl
  have k2_1 : w0.cell? ⟨w.heap.size + 1 + 1, 1, none⟩ = some (.int .i64 by_) := (Blk.cell kb2 1).trans rfl
  clear kb0 kb1 kb2
  have SK : ∀ w', Below w0.heap.size w0 w' → Below w0.heap.size w0 w' ∧ w'.cell? ⟨w.heap.size, 0, none⟩ = some (.int .i64 px) ∧ w'.cell? ⟨w.heap.size, 1, none⟩ = some (.int .i64 py) ∧ w'.cell? ⟨w.heap.size + 1, 0, none⟩ = some (.int .i64 ax) ∧ w'.cell? ⟨w.heap.size + 1, 1, none⟩ = some (.int .i64 ay) ∧ w'.cell? ⟨w.heap.size + 1 + 1, 0, none⟩ = some (.int .i64 bx) ∧ w'.cell? ⟨w.heap.size + 1 + 1, 1, none⟩ = some (.int .i64 by_) := fun w' h => ⟨h, (bcell h _ _ (by omega)).trans k0_0, (bcell h _ _ (by omega)).trans k0_1, (bcell h _ _ (by omega)).trans k1_0, (bcell h _ _ (by omega)).trans k1_1, (bcell h _ _ (by omega)).trans k2_0, (bcell h _ _ (by omega)).trans k2_1⟩
  go_wp2_with fail
  refine (near_any _ _ [(px, py), (ax, ay), (bx, by_)] (Pts3 w0 (px, py) (ax, ay) (bx, by_) _ _) (by simp)).mono ?_
  rw [hall]
  rintro e w1 ⟨rfl, hb1⟩
  have hb1' := (allocs_below w0 [_]).trans (hb1.mono (by simp))
  have hL1 : Below w0.heap.size w0 w1 := hb1'
  obtain ⟨-, c1_0, c1_1, c1_2, c1_3, c1_4, c1_5⟩ := SK _ hL1
  have HS1 := hide (HS.out.below (hb0.trans (hL1.mono hb0.size)) (Nat.le_refl _))
  go_wp2_with fail
  refine (ToLine_any _ px py ax ay bx by_ HS1.out).mono ?_
  rw [hX.out]
  rintro e w2 ⟨rfl, hbw2⟩
  have hL2 : Below w0.heap.size w0 w2 := hL1.trans (hbw2.mono hL1.size)
  obtain ⟨-, c2_0, c2_1, c2_2, c2_3, c2_4, c2_5⟩ := SK _ hL2
  have HS2 := hide (HS.out.below (hb0.trans (hL2.mono hb0.size)) (Nat.le_refl _))
  go_wp2_with fail
  refine (ToSegment_any _ px py ax ay bx by_ HS2.out).mono ?_
  rw [hY.out]
  rintro e w3 ⟨rfl, hbw3⟩
  have hL3 : Below w0.heap.size w0 w3 := hL2.trans (hbw3.mono hL2.size)
  obtain ⟨-, c3_0, c3_1, c3_2, c3_3, c3_4, c3_5⟩ := SK _ hL3
  go_wp2_with fail
  refine (Square_any _ px py ax ay).mono ?_
  rw [E3.out, R3.out]
  rintro e w4 ⟨rfl, hbw4⟩
  have hL4 : Below w0.heap.size w0 w4 := hL3.trans (hbw4.mono hL3.size)
  obtain ⟨-, c4_0, c4_1, c4_2, c4_3, c4_4, c4_5⟩ := SK _ hL4
  go_wp2_with fail
  refine (Square_any _ px py bx by_).mono ?_
  rw [E4.out, R4.out]
  rintro e w5 ⟨rfl, hbw5⟩
  have hL5 : Below w0.heap.size w0 w5 := hL4.trans (hbw5.mono hL4.size)
  obtain ⟨-, c5_0, c5_1, c5_2, c5_3, c5_4, c5_5⟩ := SK _ hL5
  go_upto_region 7 with (fail)
  have Ww60 : IntKind.i64.wrap (bx - ax) = bx - ax := IntWalk.i64_in _ ⟨by omega, by omega⟩
  have Ww61 : IntKind.i64.wrap (by_ - ay) = by_ - ay := IntWalk.i64_in _ ⟨by omega, by omega⟩
  have Ww62 : IntKind.i64.wrap (px - ax) = px - ax := IntWalk.i64_in _ ⟨by omega, by omega⟩
  have Ww63 : IntKind.i64.wrap (py - ay) = py - ay := IntWalk.i64_in _ ⟨by omega, by omega⟩
  have Ww70 : IntKind.i64.wrap (ax - bx) = ax - bx := IntWalk.i64_in _ ⟨by omega, by omega⟩
  have Ww71 : IntKind.i64.wrap (ay - by_) = ay - by_ := IntWalk.i64_in _ ⟨by omega, by omega⟩
  have Ww72 : IntKind.i64.wrap (px - bx) = px - bx := IntWalk.i64_in _ ⟨by omega, by omega⟩
  have Ww73 : IntKind.i64.wrap (py - by_) = py - by_ := IntWalk.i64_in _ ⟨by omega, by omega⟩
  have q5 : w0.heap.size ≤ w5.heap.size := hL5.size
  have SQ5 : ∀ w', Below w5.heap.size w5 w' → Below w5.heap.size w5 w' ∧ w'.cell? ⟨w.heap.size, 0, none⟩ = some (.int .i64 px) ∧ w'.cell? ⟨w.heap.size, 1, none⟩ = some (.int .i64 py) ∧ w'.cell? ⟨w.heap.size + 1, 0, none⟩ = some (.int .i64 ax) ∧ w'.cell? ⟨w.heap.size + 1, 1, none⟩ = some (.int .i64 ay) ∧ w'.cell? ⟨w.heap.size + 1 + 1, 0, none⟩ = some (.int .i64 bx) ∧ w'.cell? ⟨w.heap.size + 1 + 1, 1, none⟩ = some (.int .i64 by_) := fun w' h => ⟨h, (bcell h _ _ (block_lt_of_cell c5_0)).trans c5_0, (bcell h _ _ (block_lt_of_cell c5_1)).trans c5_1, (bcell h _ _ (block_lt_of_cell c5_2)).trans c5_2, (bcell h _ _ (block_lt_of_cell c5_3)).trans c5_3, (bcell h _ _ (block_lt_of_cell c5_4)).trans c5_4, (bcell h _ _ (block_lt_of_cell c5_5)).trans c5_5⟩
  go_region_held3 (fun w' => Below w5.heap.size w5 w' ∧ w'.cell? ⟨w.heap.size, 0, none⟩ = some (.int .i64 px) ∧ w'.cell? ⟨w.heap.size, 1, none⟩ = some (.int .i64 py) ∧ w'.cell? ⟨w.heap.size + 1, 0, none⟩ = some (.int .i64 ax) ∧ w'.cell? ⟨w.heap.size + 1, 1, none⟩ = some (.int .i64 ay) ∧ w'.cell? ⟨w.heap.size + 1 + 1, 0, none⟩ = some (.int .i64 bx) ∧ w'.cell? ⟨w.heap.size + 1 + 1, 1, none⟩ = some (.int .i64 by_)) (first | exact SQ5 _ (Below.refl _ _).drew | exact SQ5 _ (bel_next (by assumption) (by assumption) (Nat.le_refl _)))
    (first
      | (go_at_call_of 28 (.int .i64 (bx - ax) : Value); refine (at_any _ (bx - ax) (by_ - ay)).mono ?_; rintro e w6 ⟨rfl, hbW⟩)
      | (go_at_call_of 28 (.int .i64 (px - ax) : Value); refine (at_any _ (px - ax) (py - ay)).mono ?_; rintro e w6 ⟨rfl, hbW⟩)
      | (go_at_call 34; refine (Dot_any _ (bx - ax) (by_ - ay) (px - ax) (py - ay)).mono ?_; rw [R5.out]; rintro e w6 ⟨rfl, hbW⟩))
  obtain ⟨hH6, c6_0, c6_1, c6_2, c6_3, c6_4, c6_5⟩ : Below w5.heap.size w5 w6 ∧ w6.cell? ⟨w.heap.size, 0, none⟩ = some (.int .i64 px) ∧ w6.cell? ⟨w.heap.size, 1, none⟩ = some (.int .i64 py) ∧ w6.cell? ⟨w.heap.size + 1, 0, none⟩ = some (.int .i64 ax) ∧ w6.cell? ⟨w.heap.size + 1, 1, none⟩ = some (.int .i64 ay) ∧ w6.cell? ⟨w.heap.size + 1 + 1, 0, none⟩ = some (.int .i64 bx) ∧ w6.cell? ⟨w.heap.size + 1 + 1, 1, none⟩ = some (.int .i64 by_) := by assumption
  have hL6 : Below w0.heap.size w0 w6 := hL5.trans (hH6.mono hL5.size)
  clear Ww60 Ww61 Ww62 Ww63
  go_upto_region 8 with (fail)
  have q6 : w0.heap.size ≤ w6.heap.size := hL6.size
  have SQ6 : ∀ w', Below w6.heap.size w6 w' → Below w6.heap.size w6 w' ∧ w'.cell? ⟨w.heap.size, 0, none⟩ = some (.int .i64 px) ∧ w'.cell? ⟨w.heap.size, 1, none⟩ = some (.int .i64 py) ∧ w'.cell? ⟨w.heap.size + 1, 0, none⟩ = some (.int .i64 ax) ∧ w'.cell? ⟨w.heap.size + 1, 1, none⟩ = some (.int .i64 ay) ∧ w'.cell? ⟨w.heap.size + 1 + 1, 0, none⟩ = some (.int .i64 bx) ∧ w'.cell? ⟨w.heap.size + 1 + 1, 1, none⟩ = some (.int .i64 by_) := fun w' h => ⟨h, (bcell h _ _ (block_lt_of_cell c6_0)).trans c6_0, (bcell h _ _ (block_lt_of_cell c6_1)).trans c6_1, (bcell h _ _ (block_lt_of_cell c6_2)).trans c6_2, (bcell h _ _ (block_lt_of_cell c6_3)).trans c6_3, (bcell h _ _ (block_lt_of_cell c6_4)).trans c6_4, (bcell h _ _ (block_lt_of_cell c6_5)).trans c6_5⟩
  go_region_held3 (fun w' => Below w6.heap.size w6 w' ∧ w'.cell? ⟨w.heap.size, 0, none⟩ = some (.int .i64 px) ∧ w'.cell? ⟨w.heap.size, 1, none⟩ = some (.int .i64 py) ∧ w'.cell? ⟨w.heap.size + 1, 0, none⟩ = some (.int .i64 ax) ∧ w'.cell? ⟨w.heap.size + 1, 1, none⟩ = some (.int .i64 ay) ∧ w'.cell? ⟨w.heap.size + 1 + 1, 0, none⟩ = some (.int .i64 bx) ∧ w'.cell? ⟨w.heap.size + 1 + 1, 1, none⟩ = some (.int .i64 by_)) (first | exact SQ6 _ (Below.refl _ _).drew | exact SQ6 _ (bel_next (by assumption) (by assumption) (Nat.le_refl _)))
    (first
      | (go_at_call_of 28 (.int .i64 (ax - bx) : Value); refine (at_any _ (ax - bx) (ay - by_)).mono ?_; rintro e w7 ⟨rfl, hbW⟩)
      | (go_at_call_of 28 (.int .i64 (px - bx) : Value); refine (at_any _ (px - bx) (py - by_)).mono ?_; rintro e w7 ⟨rfl, hbW⟩)
      | (go_at_call 34; refine (Dot_any _ (ax - bx) (ay - by_) (px - bx) (py - by_)).mono ?_; rw [R6.out]; rintro e w7 ⟨rfl, hbW⟩))
  obtain ⟨hH7, c7_0, c7_1, c7_2, c7_3, c7_4, c7_5⟩ : Below w6.heap.size w6 w7 ∧ w7.cell? ⟨w.heap.size, 0, none⟩ = some (.int .i64 px) ∧ w7.cell? ⟨w.heap.size, 1, none⟩ = some (.int .i64 py) ∧ w7.cell? ⟨w.heap.size + 1, 0, none⟩ = some (.int .i64 ax) ∧ w7.cell? ⟨w.heap.size + 1, 1, none⟩ = some (.int .i64 ay) ∧ w7.cell? ⟨w.heap.size + 1 + 1, 0, none⟩ = some (.int .i64 bx) ∧ w7.cell? ⟨w.heap.size + 1 + 1, 1, none⟩ = some (.int .i64 by_) := by assumption
  have hL7 : Below w0.heap.size w0 w7 := hL6.trans (hH7.mono hL6.size)
  clear Ww70 Ww71 Ww72 Ww73
  have HS3 := hide (HS.out.below (hb0.trans (hL7.mono hb0.size)) (Nat.le_refl _))
  go_wp2_with fail
  refine (rcompare_any _ _ _ x y rfl rfl HN.out.fx HN.out.fy HS3.out).mono ?_
  rw [HN.out.cx]
  rintro e w8 ⟨rfl, hbw8⟩
  have hL8 : Below w0.heap.size w0 w8 := hL7.trans (hbw8.mono hL7.size)
  obtain ⟨-, c8_0, c8_1, c8_2, c8_3, c8_4, c8_5⟩ := SK _ hL8
  go_wp2_with fail
  refine (r2whole_any (min ((px - ax) * (px - ax) + (py - ay) * (py - ay)) ((px - bx) * (px - bx) + (py - by_) * (py - by_))) Q0.out Q1.out _).mono ?_
  rintro e w9 ⟨rfl, hbw9⟩
  have hL9 : Below w0.heap.size w0 w9 := hL8.trans (hbw9.mono hL8.size)
  obtain ⟨-, c9_0, c9_1, c9_2, c9_3, c9_4, c9_5⟩ := SK _ hL9
  have HS4 := hide (HS.out.below (hb0.trans (hL9.mono hb0.size)) (Nat.le_refl _))
  go_wp2_with fail
  refine (rcompare_any _ _ _ y ((min ((px - ax) * (px - ax) + (py - ay) * (py - ay)) ((px - bx) * (px - bx) + (py - by_) * (py - by_)) : Int) : Rat) rfl rfl HN.out.fy Q2.out HS4.out).mono ?_
  rw [HN.out.cy]
  rintro e w10 ⟨rfl, hbw10⟩
  have hL10 : Below w0.heap.size w0 w10 := hL9.trans (hbw10.mono hL9.size)
  obtain ⟨-, c10_0, c10_1, c10_2, c10_3, c10_4, c10_5⟩ := SK _ hL10
  have HSa := hide (HS.out.below (hb0.trans (hL10.mono hb0.size)) (Nat.le_refl _))
  go_wp2_with fail
  refine (awake_any _ HSa.out).mono ?_
  rintro e w11 ⟨rfl, hbw11⟩
  have hL11 : Below w0.heap.size w0 w11 := hL10.trans (hbw11.mono hL10.size)
  obtain ⟨-, c11_0, c11_1, c11_2, c11_3, c11_4, c11_5⟩ := SK _ hL11
  go_wp2_with fail
  go_ret
  exact ⟨rfl, hb0.trans (hL11.mono hb0.size)⟩

theorem nearer_any (w : World) (px py ax ay bx by_ : Int) (hs : Std w) : Calls Tryz.prog 10 #[.agg #[.int .i64 px, .int .i64 py], .agg #[.int .i64 ax, .int .i64 ay], .agg #[.int .i64 bx, .int .i64 by_]] w fun e w' => e = .returned (.bool true) ∧ Below w.heap.size w w' := by
  by_cases hsm : Sm px py ∧ Sm ax ay ∧ Sm bx by_
  · have hall : [(px, py), (ax, ay), (bx, by_)].all smP = true := by simp only [List.all_cons, List.all_nil, smP, Bool.and_true, Bool.and_eq_true, decide_eq_true_eq]; exact ⟨hsm.1, hsm.2.1, hsm.2.2⟩
    by_cases heq : ax = bx ∧ ay = by_
    · exact nearer_same w px py ax ay bx by_ hall (eq_true heq.1) (eq_true heq.2) hs
    · obtain ⟨x, y, r, f, hN⟩ := nearer_law px py ax ay bx by_ hsm heq
      by_cases h1 : ax = bx
      · have h2 : ¬ ay = by_ := fun h2 => heq ⟨h1, h2⟩
        by_cases hu : (bx - ax) * (px - ax) + (by_ - ay) * (py - ay) < 0
        · exact nearer_yu w px py ax ay bx by_ hall (eq_true h1) (eq_false h2) x y r f hN hsm hu hs
        · by_cases hv : (ax - bx) * (px - bx) + (ay - by_) * (py - by_) < 0
          · exact nearer_yv w px py ax ay bx by_ hall (eq_true h1) (eq_false h2) x y r f hN hsm hu hv hs
          · exact nearer_yr w px py ax ay bx by_ hall (eq_true h1) (eq_false h2) x y r f hN hsm hu hv (by rcases hN.last with h | h | h; exact absurd h hu; exact absurd h hv; rw [h]; rfl) hs
      · by_cases hu : (bx - ax) * (px - ax) + (by_ - ay) * (py - ay) < 0
        · exact nearer_xu w px py ax ay bx by_ hall (eq_false h1) x y r f hN hsm hu hs
        · by_cases hv : (ax - bx) * (px - bx) + (ay - by_) * (py - by_) < 0
          · exact nearer_xv w px py ax ay bx by_ hall (eq_false h1) x y r f hN hsm hu hv hs
          · exact nearer_xr w px py ax ay bx by_ hall (eq_false h1) x y r f hN hsm hu hv (by rcases hN.last with h | h | h; exact absurd h hu; exact absurd h hv; rw [h]; rfl) hs
  · have hall : [(px, py), (ax, ay), (bx, by_)].all smP = false := by
      rw [← Bool.not_eq_true]
      intro h
      simp only [List.all_cons, List.all_nil, smP, Bool.and_true, Bool.and_eq_true, decide_eq_true_eq] at h
      exact hsm ⟨h.1, h.2.1, h.2.2⟩
    exact nearer_far w px py ax ay bx by_ hall hs

end Go.Proofs.YtblfinpfcpglcaaGreatDoor
