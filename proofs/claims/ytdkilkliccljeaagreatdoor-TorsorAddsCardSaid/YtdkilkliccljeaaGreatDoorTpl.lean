/- Torsors, in plain numbers: the forms of the coordinates, the sums of products, and how great they become. -/
import Derived.Test.YtdkilkliccljeaaGreatDoorRtext
namespace Go.Proofs.YtdkilkliccljeaaGreatDoor
open Go.RowKit MLab

/-- The coefficients of a coordinate of a point. -/
def frm (k : Nat) (x y z : Int) : Nat → Int := fun i =>
  match k with
  | 0 => ([1, 0, 0, 0, z, -y].getD i 0)
  | 1 => ([0, 1, 0, -z, 0, x].getD i 0)
  | _ => ([0, 0, 1, y, -x, 0].getD i 0)
def coo (k : Nat) (x y z : Int) : Int := match k with
  | 0 => x
  | 1 => y
  | _ => z
/-- The sum of the first n products. -/
def psum (c : Nat → Int) (q : Nat → Rat) : Nat → Rat
  | 0 => 0
  | n + 1 => psum c q n + (c n : Rat) * q n

def Cb (x : Int) : Prop := x.natAbs < 1000000
theorem frm_cb (k : Nat) {x y z : Int} (hx : Cb x) (hy : Cb y) (hz : Cb z) (i : Nat) : Cb (frm k x y z i) := by
  have h0 : Cb 0 := by unfold Cb; decide
  have h1 : Cb 1 := by unfold Cb; decide
  have hn : ∀ {x : Int}, Cb x → Cb (-x) := fun h => by unfold Cb at *; omega
  have key : ∀ (l : List Int), (∀ a ∈ l, Cb a) → Cb (l.getD i 0) := by
    intro l hl
    rw [List.getD_eq_getElem?_getD]
    cases h : l[i]? with
    | none => exact h0
    | some a => exact hl a (List.mem_of_getElem? h)
  unfold frm
  split
  all_goals
    apply key
    intro a ha
    simp only [List.mem_cons, List.not_mem_nil, or_false] at ha
    rcases ha with rfl | rfl | rfl | rfl | rfl | rfl
    all_goals first | exact h0 | exact h1 | exact hx | exact hy | exact hz | exact hn hx | exact hn hy | exact hn hz
theorem Cb.sz {x : Int} (h : Cb x) : Sz 6 0 (x : Rat) := Sz.int (by unfold Cb at h; exact h)
theorem one_le_pow (b : Nat) : 1 ≤ 10 ^ b := Nat.pow_pos (by omega)
theorem sz_zero (a b : Nat) : Sz a b 0 := ⟨by show 0 < 10 ^ a; exact one_le_pow a, by show 1 ≤ 10 ^ b; exact one_le_pow b⟩
theorem sz_one (b : Nat) {a : Nat} (ha : 1 ≤ a) : Sz a b 1 := ⟨by show 1 < 10 ^ a; exact Nat.one_lt_pow (by omega) (by omega), by show 1 ≤ 10 ^ b; exact one_le_pow b⟩

theorem psum_term {c : Nat → Int} {q : Nat → Rat} {m n : Nat} (hc : Cb (c n)) (hq : Sz m m (q n)) : Sz (m + 6) m ((c n : Rat) * q n) :=
  (hc.sz.mul hq).mono (by omega) (by omega)
theorem psum_sz {c : Nat → Int} {q : Nat → Rat} {m N : Nat} (hc : ∀ i, i < N → Cb (c i)) (hq : ∀ i, i < N → Sz m m (q i)) : ∀ n, n ≤ N → Sz (m * n + 6 + n) (m * n) (psum c q n)
  | 0, _ => (sz_zero _ _)
  | n + 1, h => by
    have h1 := psum_sz hc hq n (by omega)
    have h2 := psum_term (c := c) (q := q) (hc n (by omega)) (hq n (by omega))
    have h3 := Sz.add (m := m * (n + 1) + 6 + n) h1 h2 (by rw [Nat.mul_succ]; omega) (by rw [Nat.mul_succ]; omega)
    exact h3.mono (by omega) (by rw [Nat.mul_succ]; exact Nat.le_refl _)
/-- The bound that serves for all sums of six products. -/
theorem psum_six {c : Nat → Int} {q : Nat → Rat} {m : Nat} (hc : ∀ i, i < 6 → Cb (c i)) (hq : ∀ i, i < 6 → Sz m m (q i)) (n : Nat) (h : n ≤ 6) : Sz (6 * m + 12) (6 * m + 12) (psum c q n) := by
  have hmn : m * n ≤ m * 6 := Nat.mul_le_mul_left m h
  exact (psum_sz hc hq n h).mono (by omega) (by omega)

theorem den_of_len {d k : Nat} (h : (Lib.decDigits d).length ≤ k) (hk : 1 ≤ k) : d < 10 ^ k := (dec_length_le hk).1 h
/-- A short right text is that of a small number. -/
theorem short_sz {l : List UInt8} {k : Nat} (hk : 1 ≤ k) (h : chkR l = 0) (hl : l.length ≤ k) : ∃ q, l = RT q ∧ Sz k k q := by
  obtain ⟨q, rfl, _⟩ := chkR_zero h
  refine ⟨q, rfl, ?_⟩
  unfold RT at hl
  split at hl
  · rename_i h1
    have h2 : (Lib.decDigits q.num.natAbs).length ≤ k := by rw [T_length] at hl; omega
    exact ⟨den_of_len h2 hk, by rw [h1]; exact Nat.pow_pos (by omega)⟩
  · rw [List.length_append, List.length_cons, T_length] at hl
    exact ⟨den_of_len (by omega) hk, Nat.le_of_lt (den_of_len (by omega) hk)⟩
theorem RT_len_sz {q : Rat} {a b : Nat} (ha : 1 ≤ a) (h : Sz a b q) : (RT q).length ≤ a + b + 3 := by
  have h1 : (Lib.decDigits q.num.natAbs).length ≤ a := (dec_length_le ha).2 h.1
  have h2 : (Lib.decDigits q.den).length ≤ b + 1 := (dec_length_le (by omega)).2 (Nat.lt_of_le_of_lt h.2 (Nat.pow_lt_pow_right (by omega) (by omega)))
  unfold RT
  split
  · rw [T_length]; split <;> omega
  · rw [List.length_append, List.length_cons, T_length]; split <;> omega

/-- Where a coordinate goes. -/
def mvd (k : Nat) (x y z : Int) (q : Nat → Rat) : Rat := (coo k x y z : Rat) + psum (frm k x y z) q 6
theorem coo_cb (k : Nat) {x y z : Int} (hx : Cb x) (hy : Cb y) (hz : Cb z) : Cb (coo k x y z) := by unfold coo; split <;> assumption
theorem mvd_sz (k : Nat) {x y z : Int} {q : Nat → Rat} {m : Nat} (hx : Cb x) (hy : Cb y) (hz : Cb z) (hq : ∀ i, i < 6 → Sz m m (q i)) : Sz (6 * m + 19) (6 * m + 12) (mvd k x y z q) := by
  have h1 := psum_six (fun i _ => frm_cb k hx hy hz i) hq 6 (Nat.le_refl _)
  exact (Sz.add (m := 6 * m + 18) (coo_cb k hx hy hz).sz h1 (by omega) (by omega)).mono (by omega) (by omega)
theorem psum6 (c : Nat → Int) (q : Nat → Rat) : psum c q 6 = (c 0 : Rat) * q 0 + (c 1 : Rat) * q 1 + (c 2 : Rat) * q 2 + (c 3 : Rat) * q 3 + (c 4 : Rat) * q 4 + (c 5 : Rat) * q 5 := by
  simp only [psum]
  rw [Rat.zero_add]
theorem mvd_zero (x y z : Int) (q : Nat → Rat) : mvd 0 x y z q = x + (q 0 + z * q 4 - y * q 5) := by
  unfold mvd; rw [psum6]; simp only [frm, coo]; simp; grind
theorem mvd_one (x y z : Int) (q : Nat → Rat) : mvd 1 x y z q = y + (q 1 - z * q 3 + x * q 5) := by
  unfold mvd; rw [psum6]; simp only [frm, coo]; simp; grind
theorem mvd_two (x y z : Int) (q : Nat → Rat) : mvd 2 x y z q = z + (q 2 + y * q 3 - x * q 4) := by
  unfold mvd; rw [psum6]; simp only [frm, coo]; simp; grind

/-- The numbers of a turn by t about the axis k through the origin, and through a point. -/
def wq (k : Nat) (t : Rat) : Nat → Rat := fun i => if i = 3 + k then t else 0
def abt (k : Nat) (x y z : Int) (t : Rat) : Nat → Rat := fun i => if i < 3 then -(psum (frm i x y z) (wq k t) 6) else wq k t i
/-- The point on the axis k through the first point that has the second one's coordinate. -/
def onx (k : Nat) (x c : Int) : Int := if k = 0 then c else x
def ony (k : Nat) (y c : Int) : Int := if k = 1 then c else y
def onz (k : Nat) (z c : Int) : Int := if k = 2 then c else z

theorem abt_on (k : Nat) (hk : k < 3) (i : Nat) (hi : i < 3) (x y z a b c : Int) (t : Rat) :
    mvd i (onx k x a) (ony k y b) (onz k z c) (abt k x y z t) = (coo i (onx k x a) (ony k y b) (onz k z c) : Rat) := by
  have e : ∀ i X Y Z, mvd i X Y Z (abt k x y z t) = (coo i X Y Z : Rat) + psum (frm i X Y Z) (abt k x y z t) 6 := fun _ _ _ _ => rfl
  rw [e, psum6]
  match k, hk, i, hi with
  | 0, _, 0, _ => simp [abt, psum6, frm, wq, onx, ony, onz]; grind
  | 0, _, 1, _ => simp [abt, psum6, frm, wq, onx, ony, onz]; grind
  | 0, _, 2, _ => simp [abt, psum6, frm, wq, onx, ony, onz]; grind
  | 1, _, 0, _ => simp [abt, psum6, frm, wq, onx, ony, onz]; grind
  | 1, _, 1, _ => simp [abt, psum6, frm, wq, onx, ony, onz]; grind
  | 1, _, 2, _ => simp [abt, psum6, frm, wq, onx, ony, onz]; grind
  | 2, _, 0, _ => simp [abt, psum6, frm, wq, onx, ony, onz]; grind
  | 2, _, 1, _ => simp [abt, psum6, frm, wq, onx, ony, onz]; grind
  | 2, _, 2, _ => simp [abt, psum6, frm, wq, onx, ony, onz]; grind

/-- The displacements of two points differ by a vector that is square to their difference. -/
theorem keeps_zero (x y z a b c : Int) (q : Nat → Rat) :
    (((0 : Rat) + ((x - a : Int) : Rat) * ((mvd 0 x y z q - mvd 0 a b c q) - ((x - a : Int) : Rat))) + ((y - b : Int) : Rat) * ((mvd 1 x y z q - mvd 1 a b c q) - ((y - b : Int) : Rat))) + ((z - c : Int) : Rat) * ((mvd 2 x y z q - mvd 2 a b c q) - ((z - c : Int) : Rat)) = 0 := by
  rw [mvd_zero, mvd_zero, mvd_one, mvd_one, mvd_two, mvd_two]
  simp only [Rat.intCast_sub]
  grind

theorem wq_sz {k : Nat} {t : Rat} {m : Nat} (h : Sz m m t) (i : Nat) : Sz m m (wq k t i) := by
  unfold wq; split
  · exact h
  · exact sz_zero _ _
theorem abt_sz {k : Nat} {x y z : Int} {t : Rat} {m : Nat} (hx : Cb x) (hy : Cb y) (hz : Cb z) (h : Sz m m t) (i : Nat) : Sz (6 * m + 12) (6 * m + 12) (abt k x y z t i) := by
  unfold abt; split
  · exact (psum_six (fun j _ => frm_cb i hx hy hz j) (fun j _ => wq_sz h j) 6 (Nat.le_refl _)).neg
  · exact (wq_sz h i).mono (by omega) (by omega)
end Go.Proofs.YtdkilkliccljeaaGreatDoor
