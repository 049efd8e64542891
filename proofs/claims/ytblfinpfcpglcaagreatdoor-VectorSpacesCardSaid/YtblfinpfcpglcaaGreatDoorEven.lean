/- Points in space: which lists are coplanar, by all fours and by the first normal that is not 0. Plain: no program in sight. -/
import Derived.Test.YtblfinpfcpglcaaGreatDoorNum
namespace Go.Proofs.YtblfinpfcpglcaaGreatDoor

abbrev S3 := Int × Int × Int
abbrev nX (a b c : S3) : Int := (b.2.1 - a.2.1) * (c.2.2 - a.2.2) - (b.2.2 - a.2.2) * (c.2.1 - a.2.1)
abbrev nY (a b c : S3) : Int := (b.2.2 - a.2.2) * (c.1 - a.1) - (b.1 - a.1) * (c.2.2 - a.2.2)
abbrev nZ (a b c : S3) : Int := (b.1 - a.1) * (c.2.1 - a.2.1) - (b.2.1 - a.2.1) * (c.1 - a.1)
abbrev six (a b c d : S3) : Int := nX a b c * (d.1 - a.1) + nY a b c * (d.2.1 - a.2.1) + nZ a b c * (d.2.2 - a.2.2)
/-- The normal is 0. -/
def Par (a b c : S3) : Prop := nX a b c = 0 ∧ nY a b c = 0 ∧ nZ a b c = 0
def gS (L : List S3) (i : Nat) : S3 := L.getD i (0, 0, 0)
theorem gS_eq {L : List S3} {i : Nat} (h : i < L.length) : L[i]? = some (gS L i) := by
  rw [List.getElem?_eq_getElem h, gS, List.getD_eq_getElem?_getD, List.getElem?_eq_getElem h]; rfl
/-- All fours have no volume. -/
def Even4 (L : List S3) : Prop := ∀ i j k m, m < k → k < j → j < i → i < L.length → six (gS L i) (gS L j) (gS L k) (gS L m) = 0

theorem six_par {o a b c : S3} (d : S3) (h1 : Par o c b) (h2 : Par o c a) (h3 : Par o b a) : six a b c d = 0 := by
  obtain ⟨a1, a2, a3⟩ := a
  obtain ⟨b1, b2, b3⟩ := b
  obtain ⟨c1, c2, c3⟩ := c
  obtain ⟨d1, d2, d3⟩ := d
  obtain ⟨o1, o2, o3⟩ := o
  obtain ⟨p1, p2, p3⟩ := h1
  obtain ⟨q1, q2, q3⟩ := h2
  obtain ⟨r1, r2, r3⟩ := h3
  have e : six (a1, a2, a3) (b1, b2, b3) (c1, c2, c3) (d1, d2, d3) = -(nX (o1, o2, o3) (c1, c2, c3) (b1, b2, b3) * (d1 - o1) + nY (o1, o2, o3) (c1, c2, c3) (b1, b2, b3) * (d2 - o2) + nZ (o1, o2, o3) (c1, c2, c3) (b1, b2, b3) * (d3 - o3)) + (nX (o1, o2, o3) (b1, b2, b3) (a1, a2, a3) * (c1 - o1) + nY (o1, o2, o3) (b1, b2, b3) (a1, a2, a3) * (c2 - o2) + nZ (o1, o2, o3) (b1, b2, b3) (a1, a2, a3) * (c3 - o3)) - (nX (o1, o2, o3) (b1, b2, b3) (a1, a2, a3) * (d1 - o1) + nY (o1, o2, o3) (b1, b2, b3) (a1, a2, a3) * (d2 - o2) + nZ (o1, o2, o3) (b1, b2, b3) (a1, a2, a3) * (d3 - o3)) + (nX (o1, o2, o3) (c1, c2, c3) (a1, a2, a3) * (d1 - o1) + nY (o1, o2, o3) (c1, c2, c3) (a1, a2, a3) * (d2 - o2) + nZ (o1, o2, o3) (c1, c2, c3) (a1, a2, a3) * (d3 - o3)) := by
    simp only [six, nX, nY, nZ]; grind
  rw [e, p1, p2, p3, q1, q2, q3, r1, r2, r3]; simp

theorem det0 {n1 n2 n3 u1 u2 u3 v1 v2 v3 w1 w2 w3 : Int} (hn : ¬ (n1 = 0 ∧ n2 = 0 ∧ n3 = 0)) (hu : n1 * u1 + n2 * u2 + n3 * u3 = 0) (hv : n1 * v1 + n2 * v2 + n3 * v3 = 0) (hw : n1 * w1 + n2 * w2 + n3 * w3 = 0) :
    (u2 * v3 - u3 * v2) * w1 + (u3 * v1 - u1 * v3) * w2 + (u1 * v2 - u2 * v1) * w3 = 0 := by
  have h1 : n1 * ((u2 * v3 - u3 * v2) * w1 + (u3 * v1 - u1 * v3) * w2 + (u1 * v2 - u2 * v1) * w3) = 0 := by
    have e : n1 * ((u2 * v3 - u3 * v2) * w1 + (u3 * v1 - u1 * v3) * w2 + (u1 * v2 - u2 * v1) * w3) = (n1 * u1 + n2 * u2 + n3 * u3) * (v2 * w3 - v3 * w2) - (n1 * v1 + n2 * v2 + n3 * v3) * (u2 * w3 - u3 * w2) + (n1 * w1 + n2 * w2 + n3 * w3) * (u2 * v3 - u3 * v2) := by grind
    rw [e, hu, hv, hw]; simp
  have h2 : n2 * ((u2 * v3 - u3 * v2) * w1 + (u3 * v1 - u1 * v3) * w2 + (u1 * v2 - u2 * v1) * w3) = 0 := by
    have e : n2 * ((u2 * v3 - u3 * v2) * w1 + (u3 * v1 - u1 * v3) * w2 + (u1 * v2 - u2 * v1) * w3) = -((n1 * u1 + n2 * u2 + n3 * u3) * (v1 * w3 - v3 * w1)) + (n1 * v1 + n2 * v2 + n3 * v3) * (u1 * w3 - u3 * w1) - (n1 * w1 + n2 * w2 + n3 * w3) * (u1 * v3 - u3 * v1) := by grind
    rw [e, hu, hv, hw]; simp
  have h3 : n3 * ((u2 * v3 - u3 * v2) * w1 + (u3 * v1 - u1 * v3) * w2 + (u1 * v2 - u2 * v1) * w3) = 0 := by
    have e : n3 * ((u2 * v3 - u3 * v2) * w1 + (u3 * v1 - u1 * v3) * w2 + (u1 * v2 - u2 * v1) * w3) = (n1 * u1 + n2 * u2 + n3 * u3) * (v1 * w2 - v2 * w1) - (n1 * v1 + n2 * v2 + n3 * v3) * (u1 * w2 - u2 * w1) + (n1 * w1 + n2 * w2 + n3 * w3) * (u1 * v2 - u2 * v1) := by grind
    rw [e, hu, hv, hw]; simp
  rcases Int.mul_eq_zero.1 h1 with h | h
  · rcases Int.mul_eq_zero.1 h2 with h' | h'
    · rcases Int.mul_eq_zero.1 h3 with h'' | h''
      · exact (hn ⟨h, h', h''⟩).elim
      · exact h''
    · exact h'
  · exact h

theorem six_flat {o p q a b c d : S3} (h : ¬ Par o p q) (ha : six o p q a = 0) (hb : six o p q b = 0) (hc : six o p q c = 0) (hd : six o p q d = 0) : six a b c d = 0 := by
  obtain ⟨a1, a2, a3⟩ := a
  obtain ⟨b1, b2, b3⟩ := b
  obtain ⟨c1, c2, c3⟩ := c
  obtain ⟨d1, d2, d3⟩ := d
  obtain ⟨o1, o2, o3⟩ := o
  have sub : ∀ x1 x2 x3 : Int, six (o1, o2, o3) p q (x1, x2, x3) = 0 → nX (o1, o2, o3) p q * (x1 - a1) + nY (o1, o2, o3) p q * (x2 - a2) + nZ (o1, o2, o3) p q * (x3 - a3) = 0 := by
    intro x1 x2 x3 hx
    unfold Par at h
    simp only [six] at ha hx
    generalize nX (o1, o2, o3) p q = n1 at *
    generalize nY (o1, o2, o3) p q = n2 at *
    generalize nZ (o1, o2, o3) p q = n3 at *
    grind
  exact det0 h (sub _ _ _ hb) (sub _ _ _ hc) (sub _ _ _ hd)

theorem even_of_par {L : List S3} (h : ∀ k i, k < i → i < L.length → Par (gS L 0) (gS L k) (gS L i)) : Even4 L := by
  intro i j k m h1 h2 h3 h4
  exact six_par _ (h k j h2 (by omega)) (h k i (by omega) h4) (h j i h3 h4)

theorem even_of_plane {L : List S3} {p q : Nat} (h : ¬ Par (gS L 0) (gS L p) (gS L q)) (ha : ∀ m, m < L.length → six (gS L 0) (gS L p) (gS L q) (gS L m) = 0) : Even4 L := by
  intro i j k m h1 h2 h3 h4
  exact six_flat h (ha i h4) (ha j (by omega)) (ha k (by omega)) (ha m (by omega))

theorem not_even {L : List S3} {p q m : Nat} (hpq : p < q) (hq : q < L.length) (hm : m < L.length) (h : six (gS L 0) (gS L p) (gS L q) (gS L m) ≠ 0) : ¬ Even4 L := by
  intro he
  have s0 : ∀ a b c : S3, six a a b c = 0 := by intro a b c; simp only [six, nX, nY, nZ]; grind
  have s1 : ∀ a b c : S3, six a b c a = 0 := by intro a b c; simp only [six, nX, nY, nZ]; grind
  have s2 : ∀ a b c : S3, six a b c b = 0 := by intro a b c; simp only [six, nX, nY, nZ]; grind
  have s3 : ∀ a b c : S3, six a b c c = 0 := by intro a b c; simp only [six, nX, nY, nZ]; grind
  have t1 : ∀ o p q m : S3, six o p q m = six m q p o := by
    rintro ⟨o1, o2, o3⟩ ⟨p1, p2, p3⟩ ⟨q1, q2, q3⟩ ⟨m1, m2, m3⟩; simp only [six, nX, nY, nZ]; grind
  have t2 : ∀ o p q m : S3, six o p q m = - six q m p o := by
    rintro ⟨o1, o2, o3⟩ ⟨p1, p2, p3⟩ ⟨q1, q2, q3⟩ ⟨m1, m2, m3⟩; simp only [six, nX, nY, nZ]; grind
  have t3 : ∀ o p q m : S3, six o p q m = six q p m o := by
    rintro ⟨o1, o2, o3⟩ ⟨p1, p2, p3⟩ ⟨q1, q2, q3⟩ ⟨m1, m2, m3⟩; simp only [six, nX, nY, nZ]; grind
  rcases Nat.eq_zero_or_pos p with rfl | hp
  · exact h (s0 _ _ _)
  rcases Nat.eq_zero_or_pos m with rfl | hm0
  · exact h (s1 _ _ _)
  rcases Nat.lt_trichotomy m p with hmp | rfl | hmp
  · exact h (by rw [t3]; exact he q p m 0 hm0 hmp hpq hq)
  · exact h (s2 _ _ _)
  rcases Nat.lt_trichotomy m q with hmq | rfl | hmq
  · exact h (by rw [t2, he q m p 0 hp hmp hmq hq]; rfl)
  · exact h (s3 _ _ _)
  · exact h (by rw [t1]; exact he m q p 0 hp hpq hmq hm)
end Go.Proofs.YtblfinpfcpglcaaGreatDoor
