/- Polylines, in plain numbers: the segments, the nearest one, how great the distances become. Crossings of a ray with a segment: the two ways along a segment agree; a ray along X and one along Y together tell whether the ends lie in one quadrant. The location of a point and its distance: where a closed polyline begins, its sense and an exchange of X and Y do not matter. -/
import Derived.Test.YtendaaghmeoddaaGreatDoorRdist
import Derived.Test.YtendaaghmeoddaaGreatDoorRtext
import Derived.Test.YtendaaghmeoddaaGreatDoorStraight
namespace Go.Proofs.YtendaaghmeoddaaGreatDoor
open Go.RowKit MLab

/-- The end of segment j, the number of segments. -/
def nx (L : List S2) (j : Nat) : S2 := gP L ((j + 1) % L.length)
def segN (L : List S2) (c : Bool) : Nat := if c then L.length else L.length - 1
def RightS (L : List S2) : Prop := ∀ i, Co (gP L i).1 ∧ Co (gP L i).2
/-- The squared distance of a point from segment j. -/
def dq (L : List S2) (p : S2) (j : Nat) : Rat := segV p.1 p.2 (gP L j).1 (gP L j).2 (nx L j).1 (nx L j).2
/-- The least of d 0, .., d k, and the first index that has it. -/
def nearF (d : Nat → Rat) : Nat → Rat × Nat
  | 0 => (d 0, 0)
  | k + 1 => if d (k + 1) < (nearF d k).1 then (d (k + 1), k + 1) else nearF d k
theorem nearF_at (d : Nat → Rat) : ∀ k, (nearF d k).1 = d (nearF d k).2 ∧ (nearF d k).2 ≤ k
  | 0 => ⟨rfl, Nat.le_refl _⟩
  | k + 1 => by
    obtain ⟨h1, h2⟩ := nearF_at d k
    unfold nearF
    split
    · exact ⟨rfl, Nat.le_refl _⟩
    · exact ⟨h1, by omega⟩
theorem nearF_le (d : Nat → Rat) : ∀ k j, j ≤ k → (nearF d k).1 ≤ d j
  | 0, j, h => by obtain rfl : j = 0 := by omega
                  exact Rat.le_refl
  | k + 1, j, h => by
    unfold nearF
    rcases Nat.lt_or_ge j (k + 1) with h1 | h1
    · have := nearF_le d k j (by omega)
      split
      · rename_i h2; exact Rat.le_trans (Rat.le_of_lt h2) this
      · exact this
    · obtain rfl : j = k + 1 := by omega
      split
      · exact Rat.le_refl
      · rename_i h2; exact Rat.not_lt.1 h2
theorem nearF_congr {d e : Nat → Rat} : ∀ k, (∀ j, j ≤ k → d j = e j) → nearF d k = nearF e k
  | 0, h => by unfold nearF; rw [h 0 (Nat.le_refl _)]
  | k + 1, h => by
    unfold nearF
    rw [nearF_congr k (fun j hj => h j (by omega)), h (k + 1) (Nat.le_refl _)]

theorem co_dif {x y : Int} (h1 : Co x) (h2 : Co y) : -200000 ≤ x - y ∧ x - y ≤ 200000 := by
  have := h1.1; have := h1.2; have := h2.1; have := h2.2; omega
theorem segV_sz {px py ax ay bx by_ : Int} (h1 : Co px) (h2 : Co py) (h3 : Co ax) (h4 : Co ay) (h5 : Co bx) (h6 : Co by_) : Sz 30 30 (segV px py ax ay bx by_) := by
  have s : ∀ {x y : Int}, (-200000 ≤ x ∧ x ≤ 200000) → (-200000 ≤ y ∧ y ≤ 200000) → -40000000000 ≤ x * y ∧ x * y ≤ 40000000000 := fun a b => by
    have := mulB (M := 200000) (N := 200000) a b; omega
  have i1 : ∀ {n : Int}, -80000000000 ≤ n ∧ n ≤ 80000000000 → Sz 30 30 ((n : Int) : Rat) := fun h => (Sz.int (a := 30) (by omega)).mono (Nat.le_refl _) (by omega)
  unfold segV
  split
  · have a := s (co_dif h1 h3) (co_dif h1 h3); have b := s (co_dif h2 h4) (co_dif h2 h4)
    exact i1 (by omega)
  · split
    · have a := s (co_dif h1 h5) (co_dif h1 h5); have b := s (co_dif h2 h6) (co_dif h2 h6)
      exact i1 (by omega)
    · rename_i hn1 hn2
      have a := s (co_dif h3 h5) (co_dif h3 h5); have b := s (co_dif h4 h6) (co_dif h4 h6)
      have c := s (co_dif h5 h3) (co_dif h2 h4); have d := s (co_dif h6 h4) (co_dif h1 h3)
      have e := mulB (M := 80000000000) (N := 80000000000) (x := (bx - ax) * (py - ay) - (by_ - ay) * (px - ax)) (y := (bx - ax) * (py - ay) - (by_ - ay) * (px - ax)) (by omega) (by omega)
      have hy : (ax - bx) * (ax - bx) + (ay - by_) * (ay - by_) ≠ 0 := by
        intro h0
        have hV : (bx - ax) * (px - ax) + (by_ - ay) * (py - ay) = (bx - ax) * (px - bx) + (by_ - ay) * (py - by_) + ((ax - bx) * (ax - bx) + (ay - by_) * (ay - by_)) := by grind
        omega
      have h := low_le (((bx - ax) * (py - ay) - (by_ - ay) * (px - ax)) * ((bx - ax) * (py - ay) - (by_ - ay) * (px - ax))) hy
      refine ⟨Nat.lt_of_le_of_lt h.1 ?_, Nat.le_trans h.2 ?_⟩
      · have : (((bx - ax) * (py - ay) - (by_ - ay) * (px - ax)) * ((bx - ax) * (py - ay) - (by_ - ay) * (px - ax))).natAbs ≤ 80000000000 * 80000000000 := by omega
        omega
      · omega
theorem dq_sz {L : List S2} {p : S2} (hr : RightS L) (hp : Co p.1 ∧ Co p.2) (j : Nat) : Sz 30 30 (dq L p j) := segV_sz hp.1 hp.2 (hr _).1 (hr _).2 (hr _).1 (hr _).2
theorem nearF_sz {d : Nat → Rat} {m : Nat} (h : ∀ j, Sz m m (d j)) (k : Nat) : Sz m m (nearF d k).1 := by rw [(nearF_at d k).1]; exact h _

/-- What Check returns for a polyline. -/
def twiceB (L : List S2) (c : Bool) : Bool := (List.range (segN L c)).any fun j => decide (gP L j = nx L j)
def chkL (L : List S2) (c : Bool) : Int := if L.length < 2 ∨ (c = true ∧ L.length < 3) then 13 else if twiceB L c = true then 7 else 0
/-- The sign of the difference of two numbers, as their cross products show it. -/
theorem cross_neg (p q : Rat) : (p.num * q.den - q.num * p.den).sign < 0 ↔ p < q := by
  rw [Int.sign_neg_iff, Rat.lt_iff]
  omega
theorem cross_pos (p q : Rat) : 0 < (p.num * q.den - q.num * p.den).sign ↔ q < p := by
  rw [Int.sign_pos_iff, Rat.lt_iff]
  omega
end Go.Proofs.YtendaaghmeoddaaGreatDoor

namespace Go.Proofs.YtendaaghmeoddaaGreatDoor
open Go.RowKit MLab

/-- The ray from p in the direction of X crosses a segment. -/
def crs (a b p : S2) : Bool :=
  if b.2 < a.2 then decide (b.2 ≤ p.2 ∧ p.2 < a.2 ∧ 0 < left3 b a p) else decide (a.2 ≤ p.2 ∧ p.2 < b.2 ∧ 0 < left3 a b p)
theorem crs_symm (a b p : S2) : crs a b p = crs b a p := by
  unfold crs
  by_cases h1 : b.2 < a.2
  · rw [if_pos h1, if_neg (by omega)]
  · by_cases h2 : a.2 < b.2
    · rw [if_neg h1, if_pos h2]
    · rw [if_neg h1, if_neg h2]
      have e1 : ¬ (a.2 ≤ p.2 ∧ p.2 < b.2 ∧ 0 < left3 a b p) := by omega
      have e2 : ¬ (b.2 ≤ p.2 ∧ p.2 < a.2 ∧ 0 < left3 b a p) := by omega
      rw [decide_eq_false e1, decide_eq_false e2]
def sw (a : S2) : S2 := (a.2, a.1)
/-- The point lies in the quadrant above and to the right of p. -/
def qd (p a : S2) : Bool := decide (p.1 < a.1) && decide (p.2 < a.2)

theorem segV_symm (px py ax ay bx by_ : Int) : segV px py ax ay bx by_ = segV px py bx by_ ax ay := by
  have hV : (bx - ax) * (px - ax) + (by_ - ay) * (py - ay) = (bx - ax) * (px - bx) + (by_ - ay) * (py - by_) + ((ax - bx) * (ax - bx) + (ay - by_) * (ay - by_)) := by grind
  have e1 : (ax - bx) * (px - bx) + (ay - by_) * (py - by_) = -((bx - ax) * (px - bx) + (by_ - ay) * (py - by_)) := by grind
  have e2 : (ax - bx) * (px - ax) + (ay - by_) * (py - ay) = -((bx - ax) * (px - ax) + (by_ - ay) * (py - ay)) := by grind
  have e3 : (bx - ax) * (bx - ax) + (by_ - ay) * (by_ - ay) = (ax - bx) * (ax - bx) + (ay - by_) * (ay - by_) := by grind
  have e4 : ((ax - bx) * (py - by_) - (ay - by_) * (px - bx)) * ((ax - bx) * (py - by_) - (ay - by_) * (px - bx)) = ((bx - ax) * (py - ay) - (by_ - ay) * (px - ax)) * ((bx - ax) * (py - ay) - (by_ - ay) * (px - ax)) := by grind
  have s1 := sq_nn (ax - bx)
  have s2 := sq_nn (ay - by_)
  unfold segV
  rw [e1, e2, e3, e4]
  by_cases h1 : (bx - ax) * (px - ax) + (by_ - ay) * (py - ay) ≤ 0
  · rw [if_pos h1]
    by_cases h2 : -((bx - ax) * (px - bx) + (by_ - ay) * (py - by_)) ≤ 0
    · rw [if_pos h2]
      have hA : (ax - bx) * (ax - bx) = 0 := by omega
      have hB : (ay - by_) * (ay - by_) = 0 := by omega
      have ha : ax = bx := by rcases Int.mul_eq_zero.1 hA with h | h <;> omega
      have hb : ay = by_ := by rcases Int.mul_eq_zero.1 hB with h | h <;> omega
      rw [ha, hb]
    · rw [if_neg h2, if_pos (by omega)]
  · rw [if_neg h1]
    by_cases h2 : 0 ≤ (bx - ax) * (px - bx) + (by_ - ay) * (py - by_)
    · rw [if_pos h2, if_pos (by omega)]
    · rw [if_neg h2, if_neg (by omega), if_neg (by omega)]
theorem segV_swap (px py ax ay bx by_ : Int) : segV py px ay ax by_ bx = segV px py ax ay bx by_ := by
  have e1 : (by_ - ay) * (py - ay) + (bx - ax) * (px - ax) = (bx - ax) * (px - ax) + (by_ - ay) * (py - ay) := by omega
  have e2 : (by_ - ay) * (py - by_) + (bx - ax) * (px - bx) = (bx - ax) * (px - bx) + (by_ - ay) * (py - by_) := by omega
  have e3 : (ay - by_) * (ay - by_) + (ax - bx) * (ax - bx) = (ax - bx) * (ax - bx) + (ay - by_) * (ay - by_) := by omega
  have e4 : ((by_ - ay) * (px - ax) - (bx - ax) * (py - ay)) * ((by_ - ay) * (px - ax) - (bx - ax) * (py - ay)) = ((bx - ax) * (py - ay) - (by_ - ay) * (px - ax)) * ((bx - ax) * (py - ay) - (by_ - ay) * (px - ax)) := by grind
  have e5 : (py - ay) * (py - ay) + (px - ax) * (px - ax) = (px - ax) * (px - ax) + (py - ay) * (py - ay) := by omega
  have e6 : (py - by_) * (py - by_) + (px - bx) * (px - bx) = (px - bx) * (px - bx) + (py - by_) * (py - by_) := by omega
  unfold segV
  rw [e1, e2, e3, e4, e5, e6]

theorem divInt_nn {x y : Int} (hx : 0 ≤ x) (hy : 0 ≤ y) : 0 ≤ Rat.divInt x y := Rat.divInt_nonneg hx hy
theorem segV_nn (px py ax ay bx by_ : Int) : 0 ≤ segV px py ax ay bx by_ := by
  have s : ∀ x y : Int, (0 : Rat) ≤ ((x * x + y * y : Int) : Rat) := fun x y => by
    have h1 := sq_nn x
    have h2 := sq_nn y
    exact_mod_cast (show (0 : Int) ≤ x * x + y * y by omega)
  unfold segV
  split
  · exact s _ _
  · split
    · exact s _ _
    · have h1 := sq_nn (ax - bx)
      have h2 := sq_nn (ay - by_)
      exact divInt_nn (sq_nn _) (by omega)
theorem mul_nn {x y : Int} (h1 : 0 ≤ x) (h2 : 0 ≤ y) : 0 ≤ x * y := Int.mul_nonneg h1 h2
/-- A point between two ends on their line has the distance 0. -/
theorem segV_on {px py ax ay bx by_ : Int} (h1 : ax ≤ px) (h2 : px < bx) (h3 : ay ≤ py) (h4 : py < by_) (hD : (bx - ax) * (py - ay) - (by_ - ay) * (px - ax) = 0) : segV px py ax ay bx by_ = 0 := by
  have a := mul_nn (x := bx - ax) (y := px - ax) (by omega) (by omega)
  have b := mul_nn (x := by_ - ay) (y := py - ay) (by omega) (by omega)
  have c := Int.mul_pos (a := bx - ax) (b := bx - px) (by omega) (by omega)
  have d := Int.mul_pos (a := by_ - ay) (b := by_ - py) (by omega) (by omega)
  have c' : (bx - ax) * (px - bx) = -((bx - ax) * (bx - px)) := by grind
  have d' : (by_ - ay) * (py - by_) = -((by_ - ay) * (by_ - py)) := by grind
  unfold segV
  by_cases h : (bx - ax) * (px - ax) + (by_ - ay) * (py - ay) ≤ 0
  · rw [if_pos h]
    have z1 : (bx - ax) * (px - ax) = 0 := by omega
    have z2 : (by_ - ay) * (py - ay) = 0 := by omega
    have y1 : px = ax := by rcases Int.mul_eq_zero.1 z1 with h | h <;> omega
    have y2 : py = ay := by rcases Int.mul_eq_zero.1 z2 with h | h <;> omega
    rw [y1, y2]; simp
  · rw [if_neg h, if_neg (by omega), hD]; simp
theorem crs_eq (a b p : S2) : crs a b p = if p.2 < a.2 then (if p.2 < b.2 then false else decide (left3 a b p < 0)) else (if p.2 < b.2 then decide (0 < left3 a b p) else false) := by
  have e : left3 b a p = -left3 a b p := by simp only [left3]; grind
  unfold crs
  rw [e]
  by_cases ua : p.2 < a.2
  · by_cases ub : p.2 < b.2
    · rw [if_pos ua, if_pos ub]
      split <;> exact decide_eq_false (by omega)
    · rw [if_pos ua, if_neg ub, if_pos (show b.2 < a.2 by omega), Bool.eq_iff_iff, decide_eq_true_eq, decide_eq_true_eq]
      omega
  · by_cases ub : p.2 < b.2
    · rw [if_neg ua, if_pos ub, if_neg (show ¬ b.2 < a.2 by omega), Bool.eq_iff_iff, decide_eq_true_eq, decide_eq_true_eq]
      omega
    · rw [if_neg ua, if_neg ub]
      split <;> exact decide_eq_false (by omega)
theorem sgn4 (x y : Int) : (0 < x → 0 < y → 0 < x * y) ∧ (x ≤ 0 → y ≤ 0 → 0 ≤ x * y) ∧ (0 < x → y ≤ 0 → x * y ≤ 0) ∧ (x ≤ 0 → 0 < y → x * y ≤ 0) := by
  refine ⟨fun h k => Int.mul_pos h k, fun h k => Int.mul_nonneg_of_nonpos_of_nonpos h k, fun h k => ?_, fun h k => ?_⟩
  · have := Int.mul_nonneg (a := x) (b := -y) (by omega) (by omega)
    have e : x * -y = -(x * y) := by grind
    omega
  · have := Int.mul_nonneg (a := -x) (b := y) (by omega) (by omega)
    have e : -x * y = -(x * y) := by grind
    omega
/-- **The quadrant law.** -/
theorem quad (a b p : S2) (h0 : segV p.1 p.2 a.1 a.2 b.1 b.2 ≠ 0) : (crs a b p ^^ crs (sw a) (sw b) (sw p)) = (qd p a ^^ qd p b) := by
  obtain ⟨a1, a2⟩ := a
  obtain ⟨b1, b2⟩ := b
  obtain ⟨p1, p2⟩ := p
  have hs : segV p1 p2 b1 b2 a1 a2 ≠ 0 := by rw [segV_symm]; exact h0
  obtain ⟨X, hX⟩ : ∃ X, (a1 - p1) * (b2 - p2) = X := ⟨_, rfl⟩
  obtain ⟨Y, hY⟩ : ∃ Y, (b1 - p1) * (a2 - p2) = Y := ⟨_, rfl⟩
  have hD : left3 (a1, a2) (b1, b2) (p1, p2) = X - Y := by rw [← hX, ← hY]; simp only [left3]; grind
  have hE : left3 (sw (a1, a2)) (sw (b1, b2)) (sw (p1, p2)) = Y - X := by rw [← hX, ← hY]; simp only [left3, sw]; grind
  have s1 := sgn4 (a1 - p1) (b2 - p2)
  have s2 := sgn4 (b1 - p1) (a2 - p2)
  rw [hX] at s1
  rw [hY] at s2
  have n1 : a1 ≤ p1 → p1 < b1 → a2 ≤ p2 → p2 < b2 → X ≠ Y := fun h1 h2 h3 h4 e => h0 (segV_on h1 h2 h3 h4 (by rw [show (b1 - a1) * (p2 - a2) - (b2 - a2) * (p1 - a1) = X - Y by rw [← hX, ← hY]; grind]; omega))
  have n2 : b1 ≤ p1 → p1 < a1 → b2 ≤ p2 → p2 < a2 → X ≠ Y := fun h1 h2 h3 h4 e => hs (segV_on h1 h2 h3 h4 (by rw [show (a1 - b1) * (p2 - b2) - (a2 - b2) * (p1 - b1) = Y - X by rw [← hX, ← hY]; grind]; omega))
  rw [crs_eq, crs_eq, hD, hE]
  unfold qd
  show (_ ^^ (if p1 < a1 then (if p1 < b1 then false else decide (Y - X < 0)) else (if p1 < b1 then decide (0 < Y - X) else false))) = _
  clear hX hY hD hE h0 hs
  by_cases ua : p2 < a2 <;> by_cases ub : p2 < b2 <;> by_cases ra : p1 < a1 <;> by_cases rb : p1 < b1 <;> simp only [ua, ub, ra, rb, if_true, if_false, decide_true, decide_false, Bool.and_true, Bool.and_false, Bool.xor_false, Bool.false_xor, Bool.xor_true, Bool.xor_self] <;> (try rw [Bool.eq_iff_iff]) <;> simp <;> omega
end Go.Proofs.YtendaaghmeoddaaGreatDoor

namespace Go.Proofs.YtendaaghmeoddaaGreatDoor
open Go.RowKit MLab

/-- The parity of how many of f 0, .., f (n - 1) hold. -/
def par (f : Nat → Bool) : Nat → Bool
  | 0 => false
  | n + 1 => par f n ^^ f n
theorem par_congr {f g : Nat → Bool} : ∀ n, (∀ j, j < n → f j = g j) → par f n = par g n
  | 0, _ => rfl
  | n + 1, h => by unfold par; rw [par_congr n (fun j hj => h j (by omega)), h n (by omega)]
theorem par_add (f : Nat → Bool) (a : Nat) : ∀ b, par f (a + b) = (par f a ^^ par (fun j => f (a + j)) b)
  | 0 => by simp [par]
  | b + 1 => by
    show (par f (a + b) ^^ f (a + b)) = (par f a ^^ (par (fun j => f (a + j)) b ^^ f (a + b)))
    rw [par_add f a b, Bool.xor_assoc]
theorem par_xor (f g : Nat → Bool) : ∀ n, par (fun j => f j ^^ g j) n = (par f n ^^ par g n)
  | 0 => rfl
  | n + 1 => by
    show (par (fun j => f j ^^ g j) n ^^ (f n ^^ g n)) = _
    rw [par_xor f g n]
    show _ = ((par f n ^^ f n) ^^ (par g n ^^ g n))
    cases par f n <;> cases par g n <;> cases f n <;> cases g n <;> rfl
theorem par_rot (f : Nat → Bool) {n k : Nat} (hk : k ≤ n) : par (fun j => f ((j + k) % n)) n = par f n := by
  have h1 : par (fun j => f ((j + k) % n)) ((n - k) + k) = (par (fun j => f (k + j)) (n - k) ^^ par f k) := by
    rw [par_add]
    congr 1
    · exact par_congr _ fun j hj => by rw [Nat.mod_eq_of_lt (by omega), Nat.add_comm]
    · refine par_congr _ fun j hj => ?_
      show f ((n - k + j + k) % n) = f j
      rw [show n - k + j + k = j + n by omega, Nat.add_mod_right, Nat.mod_eq_of_lt (by omega)]
  have h2 := par_add f k (n - k)
  rw [show n - k + k = n by omega] at h1
  rw [show k + (n - k) = n by omega] at h2
  rw [h1, h2, Bool.xor_comm]
theorem par_rev (f : Nat → Bool) : ∀ n, par (fun j => f (n - 1 - j)) n = par f n
  | 0 => rfl
  | n + 1 => by
    have h := par_add (fun j => f (n + 1 - 1 - j)) 1 n
    rw [show 1 + n = n + 1 by omega] at h
    rw [h]
    have e1 : par (fun j => f (n + 1 - 1 - j)) 1 = f n := by simp [par]
    have e2 : par (fun j => f (n + 1 - 1 - (1 + j))) n = par (fun j => f (n - 1 - j)) n := par_congr _ fun j hj => by rw [show n + 1 - 1 - (1 + j) = n - 1 - j by omega]
    rw [e1, e2, par_rev f n]
    show _ = (par f n ^^ f n)
    rw [Bool.xor_comm]
theorem par_shift (q : Nat → Bool) {n : Nat} (hn : 1 ≤ n) : par (fun j => q j ^^ q ((j + 1) % n)) n = false := by
  rw [par_xor, par_rot q hn, Bool.xor_self]

/-- The least of d 0, .., d (n - 1). -/
def mn (d : Nat → Rat) (n : Nat) : Rat := (nearF d (n - 1)).1
theorem mn_le_of {d e : Nat → Rat} {n m : Nat} (hm : 1 ≤ m) (hn : 1 ≤ n) (h : ∀ i, i < m → ∃ j, j < n ∧ e i = d j) : mn d n ≤ mn e m := by
  unfold mn
  obtain ⟨h1, h2⟩ := nearF_at e (m - 1)
  obtain ⟨j, hj, he⟩ := h _ (show (nearF e (m - 1)).2 < m by omega)
  rw [h1, he]
  exact nearF_le d (n - 1) j (by omega)
theorem mn_eq {d e : Nat → Rat} {n m : Nat} (hn : 1 ≤ n) (hm : 1 ≤ m) (h1 : ∀ j, j < n → ∃ i, i < m ∧ d j = e i) (h2 : ∀ i, i < m → ∃ j, j < n ∧ e i = d j) : mn d n = mn e m :=
  Rat.le_antisymm (mn_le_of hm hn h2) (mn_le_of hn hm h1)
theorem mn_congr {d e : Nat → Rat} {n : Nat} (hn : 1 ≤ n) (h : ∀ j, j < n → d j = e j) : mn d n = mn e n := by
  unfold mn; rw [nearF_congr (n - 1) (fun j hj => h j (by omega))]

/-- The location of a point for a closed polyline: 1 inside, 0 on it, -1 outside. -/
def cr (L : List S2) (p : S2) (j : Nat) : Bool := crs (gP L j) (nx L j) p
def locP (L : List S2) (p : S2) : Int := if mn (dq L p) L.length = 0 then 0 else if par (cr L p) L.length then 1 else -1
def distP (L : List S2) (p : S2) : Rat := mn (dq L p) L.length

theorem turn_of {L M : List S2} {p q : S2} (hL : 1 ≤ L.length) (hM : M.length = L.length) (hd : ∀ j, j < L.length → ∃ i, i < L.length ∧ dq M q j = dq L p i) (hd2 : ∀ i, i < L.length → ∃ j, j < L.length ∧ dq L p i = dq M q j)
    (hp : mn (dq L p) L.length ≠ 0 → par (cr M q) L.length = par (cr L p) L.length) : locP M q = locP L p ∧ distP M q = distP L p := by
  have h1 : mn (dq M q) L.length = mn (dq L p) L.length := mn_eq hL hL hd hd2
  constructor
  · unfold locP
    rw [hM, h1]
    by_cases h : mn (dq L p) L.length = 0
    · rw [if_pos h, if_pos h]
    · rw [if_neg h, if_neg h, hp h]
  · unfold distP; rw [hM, h1]

/-- **Where it begins.** -/
theorem turn_begin {L M : List S2} {k : Nat} (hk : k < L.length) (hM : M.length = L.length) (hg : ∀ j, gP M (j % L.length) = gP L ((j + k) % L.length)) (p : S2) : locP M p = locP L p ∧ distP M p = distP L p := by
  have hL : 1 ≤ L.length := by omega
  have e1 : ∀ j, j < L.length → gP M j = gP L ((j + k) % L.length) ∧ nx M j = nx L ((j + k) % L.length) := fun j hj => by
    constructor
    · rw [← hg j, Nat.mod_eq_of_lt hj]
    · unfold nx
      rw [hM, hg (j + 1), show j + 1 + k = j + k + 1 by omega]
      congr 1
      rw [Nat.add_mod ((j + k) % L.length) 1, Nat.mod_mod, ← Nat.add_mod]
  have hdj : ∀ j, j < L.length → dq M p j = dq L p ((j + k) % L.length) := fun j hj => by unfold dq; rw [(e1 j hj).1, (e1 j hj).2]
  refine turn_of hL hM (fun j hj => ⟨(j + k) % L.length, Nat.mod_lt _ hL, hdj j hj⟩) (fun i hi => ⟨(i + (L.length - k)) % L.length, Nat.mod_lt _ hL, ?_⟩) (fun _ => ?_)
  · rw [hdj _ (Nat.mod_lt _ hL), Nat.add_mod ((i + (L.length - k)) % L.length) k, Nat.mod_mod, ← Nat.add_mod, show i + (L.length - k) + k = i + L.length by omega, Nat.add_mod_right, Nat.mod_eq_of_lt hi]
  · rw [← par_rot (cr L p) (Nat.le_of_lt hk)]
    exact par_congr _ fun j hj => by unfold cr; rw [(e1 j hj).1, (e1 j hj).2]

/-- **Its sense.** -/
theorem turn_back {L M : List S2} (hL : 1 ≤ L.length) (hM : M.length = L.length) (hg : ∀ j, j < L.length → gP M j = gP L (L.length - 1 - j)) (p : S2) : locP M p = locP L p ∧ distP M p = distP L p := by
  have hmod : ∀ j, j < L.length → (L.length - 1 - j + (L.length - 1)) % L.length < L.length := fun _ _ => Nat.mod_lt _ hL
  have e1 : ∀ j, j < L.length → gP M j = nx L ((L.length - 1 - j + (L.length - 1)) % L.length) ∧ nx M j = gP L ((L.length - 1 - j + (L.length - 1)) % L.length) := fun j hj => by
    constructor
    · unfold nx
      rw [hg j hj, Nat.add_mod ((L.length - 1 - j + (L.length - 1)) % L.length) 1, Nat.mod_mod, ← Nat.add_mod, show L.length - 1 - j + (L.length - 1) + 1 = (L.length - 1 - j) + L.length by omega, Nat.add_mod_right, Nat.mod_eq_of_lt (by omega)]
    · unfold nx
      rw [hM, hg _ (Nat.mod_lt _ hL)]
      congr 1
      rcases Nat.lt_or_ge (j + 1) L.length with h | h
      · rw [Nat.mod_eq_of_lt h, show L.length - 1 - j + (L.length - 1) = (L.length - 1 - (j + 1)) + L.length by omega, Nat.add_mod_right, Nat.mod_eq_of_lt (by omega)]
      · rw [show j + 1 = L.length by omega, Nat.mod_self, show L.length - 1 - j + (L.length - 1) = L.length - 1 by omega, Nat.mod_eq_of_lt (by omega)]
        rfl
  have hdj : ∀ j, j < L.length → dq M p j = dq L p ((L.length - 1 - j + (L.length - 1)) % L.length) := fun j hj => by unfold dq; rw [(e1 j hj).1, (e1 j hj).2, segV_symm]
  refine turn_of hL hM (fun j hj => ⟨_, hmod j hj, hdj j hj⟩) (fun i hi => ?_) (fun _ => ?_)
  · rcases Nat.lt_or_ge (i + 1) L.length with h | h
    · refine ⟨L.length - 2 - i, by omega, ?_⟩
      rw [hdj _ (by omega), show L.length - 1 - (L.length - 2 - i) + (L.length - 1) = i + L.length by omega, Nat.add_mod_right, Nat.mod_eq_of_lt hi]
    · refine ⟨L.length - 1, by omega, ?_⟩
      rw [hdj _ (by omega), show L.length - 1 - (L.length - 1) + (L.length - 1) = i by omega, Nat.mod_eq_of_lt hi]
  · rw [← par_rot (cr L p) (show L.length - 1 ≤ L.length by omega), ← par_rev]
    exact par_congr _ fun j hj => by unfold cr; rw [(e1 (L.length - 1 - j) (by omega)).1, (e1 (L.length - 1 - j) (by omega)).2, crs_symm, show L.length - 1 - (L.length - 1 - j) = j by omega]

/-- **X and Y exchanged.** -/
theorem turn_swap {L M : List S2} (hL : 1 ≤ L.length) (hM : M.length = L.length) (hg : ∀ j, j < L.length → gP M j = sw (gP L j)) (p : S2) : locP M (sw p) = locP L p ∧ distP M (sw p) = distP L p := by
  have e1 : ∀ j, j < L.length → gP M j = sw (gP L j) ∧ nx M j = sw (nx L j) := fun j hj => ⟨hg j hj, by unfold nx; rw [hM, hg _ (Nat.mod_lt _ hL)]⟩
  have hdj : ∀ j, j < L.length → dq M (sw p) j = dq L p j := fun j hj => by unfold dq; rw [(e1 j hj).1, (e1 j hj).2]; exact segV_swap _ _ _ _ _ _
  refine turn_of hL hM (fun j hj => ⟨j, hj, hdj j hj⟩) (fun i hi => ⟨i, hi, (hdj i hi).symm⟩) (fun h0 => ?_)
  have hne : ∀ j, j < L.length → dq L p j ≠ 0 := fun j hj e => h0 (by
    have h1 := nearF_le (dq L p) (L.length - 1) j (by omega)
    rw [e] at h1
    have h2 : 0 ≤ mn (dq L p) L.length := by
      unfold mn
      rw [(nearF_at (dq L p) (L.length - 1)).1]
      exact segV_nn _ _ _ _ _ _
    exact Rat.le_antisymm h1 h2)
  have h2 : par (fun j => cr L p j ^^ cr M (sw p) j) L.length = false := by
    rw [← par_shift (fun j => qd p (gP L j)) hL]
    refine par_congr _ fun j hj => ?_
    unfold cr
    rw [(e1 j hj).1, (e1 j hj).2]
    exact quad _ _ _ (hne j hj)
  rw [par_xor] at h2
  cases h3 : par (cr L p) L.length <;> cases h4 : par (cr M (sw p)) L.length <;> rw [h3, h4] at h2 <;> first | rfl | cases h2
end Go.Proofs.YtendaaghmeoddaaGreatDoor
