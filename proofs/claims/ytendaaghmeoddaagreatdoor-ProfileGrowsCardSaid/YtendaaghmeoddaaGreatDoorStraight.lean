/- Points in the plane: which lists are collinear; the area of a polygon. Plain: no program in sight. -/
import Derived.Test.YtendaaghmeoddaaGreatDoorDec
namespace Go.Proofs.YtendaaghmeoddaaGreatDoor

abbrev S2 := Int × Int
abbrev left3 (a b c : S2) : Int := (b.1 - a.1) * (c.2 - a.2) - (b.2 - a.2) * (c.1 - a.1)
abbrev turn2 (a b : S2) : Int := a.1 * b.2 - a.2 * b.1
def gP (L : List S2) (i : Nat) : S2 := L.getD i (0, 0)
theorem gP_eq {L : List S2} {i : Nat} (h : i < L.length) : L[i]? = some (gP L i) := by
  rw [List.getElem?_eq_getElem h, gP, List.getD_eq_getElem?_getD, List.getElem?_eq_getElem h]; rfl
/-- All triples are collinear. -/
def Line3 (L : List S2) : Prop := ∀ i j k, k < j → j < i → i < L.length → left3 (gP L i) (gP L j) (gP L k) = 0

theorem line_of_same {L : List S2} (h : ∀ i, i < L.length → gP L i = gP L 0) : Line3 L := by
  intro i j k h1 h2 h3
  rw [h i h3, h j (by omega), h k (by omega)]
  simp only [left3]; grind

theorem turn0 {n1 n2 u1 u2 w1 w2 : Int} (hn : ¬ (n1 = 0 ∧ n2 = 0)) (hu : n1 * u2 - n2 * u1 = 0) (hw : n1 * w2 - n2 * w1 = 0) : u1 * w2 - u2 * w1 = 0 := by
  have h1 : n1 * (u1 * w2 - u2 * w1) = 0 := by
    have e : n1 * (u1 * w2 - u2 * w1) = u1 * (n1 * w2 - n2 * w1) - w1 * (n1 * u2 - n2 * u1) := by grind
    rw [e, hu, hw]; simp
  have h2 : n2 * (u1 * w2 - u2 * w1) = 0 := by
    have e : n2 * (u1 * w2 - u2 * w1) = u2 * (n1 * w2 - n2 * w1) - w2 * (n1 * u2 - n2 * u1) := by grind
    rw [e, hu, hw]; simp
  rcases Int.mul_eq_zero.1 h1 with h | h
  · rcases Int.mul_eq_zero.1 h2 with h' | h'
    · exact (hn ⟨h, h'⟩).elim
    · exact h'
  · exact h

theorem line_of_all {L : List S2} {q : Nat} (hq : gP L q ≠ gP L 0) (h : ∀ m, m < L.length → left3 (gP L 0) (gP L q) (gP L m) = 0) : Line3 L := by
  intro i j k h1 h2 h3
  have hi := h i h3
  have hj := h j (by omega)
  have hk := h k (by omega)
  generalize gP L i = a at *
  generalize gP L j = b at *
  generalize gP L k = c at *
  generalize gP L 0 = o at *
  generalize gP L q = p at *
  obtain ⟨a1, a2⟩ := a
  obtain ⟨b1, b2⟩ := b
  obtain ⟨c1, c2⟩ := c
  obtain ⟨o1, o2⟩ := o
  obtain ⟨p1, p2⟩ := p
  simp only [left3] at *
  refine turn0 (n1 := p1 - o1) (n2 := p2 - o2) (fun ⟨e1, e2⟩ => hq ?_) ?_ ?_
  · rw [show p1 = o1 by omega, show p2 = o2 by omega]
  · grind
  · grind

theorem not_line {L : List S2} {q m : Nat} (hq : q < L.length) (hm : m < L.length) (h : left3 (gP L 0) (gP L q) (gP L m) ≠ 0) : ¬ Line3 L := by
  intro he
  have s0 : ∀ a c : S2, left3 a a c = 0 := by intro a c; simp only [left3]; grind
  have s1 : ∀ a b : S2, left3 a b a = 0 := by intro a b; simp only [left3]; grind
  have s2 : ∀ a b : S2, left3 a b b = 0 := by intro a b; simp only [left3]; grind
  have t1 : ∀ o q m : S2, left3 o q m = - left3 m q o := by
    rintro ⟨o1, o2⟩ ⟨q1, q2⟩ ⟨m1, m2⟩; simp only [left3]; grind
  have t2 : ∀ o q m : S2, left3 o q m = left3 q m o := by
    rintro ⟨o1, o2⟩ ⟨q1, q2⟩ ⟨m1, m2⟩; simp only [left3]; grind
  rcases Nat.eq_zero_or_pos q with rfl | hq0
  · exact h (s0 _ _)
  rcases Nat.eq_zero_or_pos m with rfl | hm0
  · exact h (s1 _ _)
  rcases Nat.lt_trichotomy m q with hmq | rfl | hmq
  · exact h (by rw [t2]; exact he q m 0 hm0 hmq hq)
  · exact h (s2 _ _)
  · exact h (by rw [t1, he m q 0 hq0 hmq hm]; rfl)

/-- The sum of the first j sides of a closed polygon of n points. -/
def areaUp (L : List S2) : Nat → Int
  | 0 => 0
  | j + 1 => areaUp L j + turn2 (gP L j) (gP L ((j + 1) % L.length))
/-- The sum of the cross products of the first j sides with a point. -/
def crossUp (L : List S2) (p : S2) : Nat → Int
  | 0 => 0
  | j + 1 => crossUp L p j + left3 p (gP L j) (gP L ((j + 1) % L.length))

theorem cross_up (L : List S2) (p : S2) : ∀ j, j ≤ L.length → crossUp L p j = areaUp L j + turn2 p (gP L 0) - turn2 p (gP L (j % L.length))
  | 0, _ => by simp [crossUp, areaUp]
  | j + 1, hj => by
    have ih := cross_up L p j (by omega)
    rw [Nat.mod_eq_of_lt (by omega : j < L.length)] at ih
    rw [crossUp, areaUp, ih]
    generalize gP L j = a
    generalize gP L ((j + 1) % L.length) = b
    generalize gP L 0 = o
    generalize areaUp L j = s
    obtain ⟨a1, a2⟩ := a
    obtain ⟨b1, b2⟩ := b
    obtain ⟨p1, p2⟩ := p
    simp only [left3, turn2]; grind

/-- The sum of the sides is that of their cross products with any point. -/
theorem cross_area (L : List S2) (p : S2) : crossUp L p L.length = areaUp L L.length := by
  rw [cross_up L p L.length (Nat.le_refl _), Nat.mod_self]; omega

theorem turn2_bound {a b : S2} {M : Int} (_ : 0 ≤ M) (h1 : -M ≤ a.1 ∧ a.1 ≤ M) (h2 : -M ≤ a.2 ∧ a.2 ≤ M) (h3 : -M ≤ b.1 ∧ b.1 ≤ M) (h4 : -M ≤ b.2 ∧ b.2 ≤ M) : -(2 * (M * M)) ≤ turn2 a b ∧ turn2 a b ≤ 2 * (M * M) := by
  have mul : ∀ x y : Int, (-M ≤ x ∧ x ≤ M) → (-M ≤ y ∧ y ≤ M) → -(M * M) ≤ x * y ∧ x * y ≤ M * M := by
    intro x y hx hy
    have a1 := Int.mul_nonneg (show 0 ≤ M - x by omega) (show 0 ≤ M - y by omega)
    have a2 := Int.mul_nonneg (show 0 ≤ M + x by omega) (show 0 ≤ M + y by omega)
    have a3 := Int.mul_nonneg (show 0 ≤ M - x by omega) (show 0 ≤ M + y by omega)
    have a4 := Int.mul_nonneg (show 0 ≤ M + x by omega) (show 0 ≤ M - y by omega)
    have e1 : (M - x) * (M - y) = M * M - M * y - x * M + x * y := by grind
    have e2 : (M + x) * (M + y) = M * M + M * y + x * M + x * y := by grind
    have e3 : (M - x) * (M + y) = M * M + M * y - x * M - x * y := by grind
    have e4 : (M + x) * (M - y) = M * M - M * y + x * M - x * y := by grind
    rw [e1] at a1; rw [e2] at a2; rw [e3] at a3; rw [e4] at a4
    constructor <;> omega
  have m1 := mul _ _ h1 h4
  have m2 := mul _ _ h2 h3
  simp only [turn2]
  omega

theorem areaUp_bound {L : List S2} {M : Int} (hM : 0 ≤ M) (h : ∀ i, i < L.length → (-M ≤ (gP L i).1 ∧ (gP L i).1 ≤ M) ∧ (-M ≤ (gP L i).2 ∧ (gP L i).2 ≤ M)) : ∀ j : Nat, j ≤ L.length → -((j : Int) * (2 * (M * M))) ≤ areaUp L j ∧ areaUp L j ≤ (j : Int) * (2 * (M * M))
  | 0, _ => by simp [areaUp]
  | j + 1, hj => by
    have ih := areaUp_bound hM h j (by omega)
    have g1 := h j (by omega)
    have g2 := h ((j + 1) % L.length) (Nat.mod_lt _ (by omega))
    have b := turn2_bound hM g1.1 g1.2 g2.1 g2.2
    rw [areaUp, Int.natCast_add, Int.add_mul]
    generalize 2 * (M * M) = K at *
    generalize (j : Int) * K = J at *
    omega
end Go.Proofs.YtendaaghmeoddaaGreatDoor
