/- The lists of samples, counted by their bad parts. -/
import Derived.Test.YtaccdkbofhlbkaaGreatDoorBin
namespace MLab

def firstL : List Nat → Nat
  | [] => 0
  | [x] => x + 1
  | _ :: y :: l => firstL (y :: l)
def rngL : Nat → Nat → List Nat
  | _, 0 => []
  | a, n + 1 => a :: rngL (a + 1) n
/-- A list with one further, greater index below n. -/
def stepL (n : Nat) (l : List Nat) : List (List Nat) := (rngL (firstL l) (n - firstL l)).map fun i => l ++ [i]
/-- All ascending lists of k indices below n. -/
def listsL (n : Nat) : Nat → List (List Nat)
  | 0 => [[]]
  | k + 1 => (listsL n k).flatMap (stepL n)
def foundL (b : Nat) : List Nat → Nat
  | [] => 0
  | x :: l => (if x < b then 1 else 0) + foundL b l
def countL (j : Nat) : List Nat → Nat
  | [] => 0
  | x :: l => (if x = j then 1 else 0) + countL j l
def chkL1 (lot N bad : Nat) (L : List Nat) : Bool := (List.range (N + 1)).all fun k => countL k L == bin bad k * bin (lot - bad) (N - k)
def chkL2 (lot N : Nat) (L : List (List Nat)) : Bool := L.length == bin lot N && (List.range (lot + 1)).all fun bad => chkL1 lot N bad (L.map (foundL bad))
def chkL3 (lot : Nat) : Bool := (List.range (lot + 1)).all fun N => chkL2 lot N (listsL lot N)
set_option maxRecDepth 100000 in
theorem chkL_all : (List.range 10).all chkL3 = true := by decide +kernel
theorem foundL_le (b : Nat) : ∀ l : List Nat, foundL b l ≤ l.length
  | [] => Nat.le_refl _
  | x :: l => by
    have := foundL_le b l
    rw [foundL, List.length_cons]; split <;> omega
theorem stepL_length {n : Nat} {l m : List Nat} (h : m ∈ stepL n l) : m.length = l.length + 1 := by
  obtain ⟨i, _, rfl⟩ := List.mem_map.1 h
  simp
theorem listsL_length (n : Nat) : ∀ (k : Nat) (l : List Nat), l ∈ listsL n k → l.length = k
  | 0, l, h => by
    have : l = [] := by simpa [listsL] using h
    rw [this]; rfl
  | k + 1, l, h => by
    obtain ⟨m, hm, hl⟩ := List.mem_flatMap.1 h
    rw [stepL_length hl, listsL_length n k m hm]
theorem lists_spec {lot N bad : Nat} (h9 : lot ≤ 9) (hN : N ≤ lot) (hb : bad ≤ lot) :
    (listsL lot N).length = bin lot N ∧ ∀ k, k ≤ N → countL k ((listsL lot N).map (foundL bad)) = bin bad k * bin (lot - bad) (N - k) := by
  have h1 := List.all_eq_true.1 chkL_all lot (List.mem_range.2 (by omega))
  have h2 := List.all_eq_true.1 h1 N (List.mem_range.2 (by omega))
  unfold chkL2 at h2
  rw [Bool.and_eq_true] at h2
  refine ⟨by simpa using h2.1, fun k hk => ?_⟩
  have h3 := List.all_eq_true.1 h2.2 bad (List.mem_range.2 (by omega))
  have h4 := List.all_eq_true.1 h3 k (List.mem_range.2 (by omega))
  simpa using h4
/-- The sum of what a function says of a list of numbers. -/
def totL (f : Nat → Nat) : List Nat → Nat
  | [] => 0
  | x :: l => f x + totL f l
theorem sumN_one (f : Nat → Nat) (x : Nat) : ∀ n, sumN (fun k => (if x = k then 1 else 0) * f k) n = if x < n then f x else 0
  | 0 => rfl
  | n + 1 => by
    rw [sumN_succ, sumN_one f x n]
    by_cases h : x < n
    · rw [if_pos h, if_neg (by omega : ¬ x = n), if_pos (by omega : x < n + 1)]; omega
    · by_cases h2 : x = n
      · subst h2; rw [if_neg h, if_pos (rfl : x = x), if_pos (by omega : x < x + 1)]; omega
      · rw [if_neg h, if_neg h2, if_neg (by omega : ¬ x < n + 1)]; omega
theorem totL_count (f : Nat → Nat) (N : Nat) : ∀ l : List Nat, (∀ x, x ∈ l → x < N) → totL f l = sumN (fun k => countL k l * f k) N
  | [], _ => by
    have h : ∀ n, sumN (fun k => countL k [] * f k) n = 0 := by
      intro n; induction n with
      | zero => rfl
      | succ n ih => rw [sumN_succ, ih]; show 0 + 0 * _ = 0; omega
    rw [h]; rfl
  | x :: l, h => by
    have h1 : sumN (fun k => countL k (x :: l) * f k) N = sumN (fun k => (if x = k then 1 else 0) * f k) N + sumN (fun k => countL k l * f k) N := by
      rw [← sumN_add]
      refine sumN_congr fun k _ => ?_
      show ((if x = k then 1 else 0) + countL k l) * f k = _
      rw [Nat.add_mul]
    rw [h1, sumN_one, if_pos (h x (by simp)), ← totL_count f N l (fun y hy => h y (by simp [hy]))]; rfl
/-- What a function says of the bad parts of all samples, added up. -/
theorem lists_tot {lot N bad : Nat} (h9 : lot ≤ 9) (hN : N ≤ lot) (hb : bad ≤ lot) (f : Nat → Nat) :
    totL f ((listsL lot N).map (foundL bad)) = sumN (fun k => bin bad k * bin (lot - bad) (N - k) * f k) (N + 1) := by
  rw [totL_count f (N + 1)]
  · refine sumN_congr fun k hk => ?_
    rw [(lists_spec h9 hN hb).2 k (by omega)]
  · intro x hx
    obtain ⟨l, hl, rfl⟩ := List.mem_map.1 hx
    have := foundL_le bad l
    rw [listsL_length lot N l hl] at this
    omega
theorem sumN_cut (f : Nat → Nat) {C N : Nat} (h : C ≤ N) : sumN (fun k => f k * (if k ≤ C then 1 else 0)) (N + 1) = sumN f (C + 1) := by
  obtain ⟨d, rfl⟩ := Nat.le.dest h
  rw [show C + d + 1 = C + 1 + d by omega, sumN_split]
  have h1 : sumN (fun k => f k * (if k ≤ C then 1 else 0)) (C + 1) = sumN f (C + 1) := sumN_congr fun k hk => by rw [if_pos (by omega)]; omega
  have h2 : ∀ d, sumN (fun i => f (C + 1 + i) * (if C + 1 + i ≤ C then 1 else 0)) d = 0 := by
    intro d; induction d with
    | zero => rfl
    | succ d ih => rw [sumN_succ, ih, if_neg (by omega)]; omega
  rw [h1, h2]; omega
/-- The samples with at most C bad parts. -/
theorem lists_acc {lot N bad C : Nat} (h9 : lot ≤ 9) (hN : N ≤ lot) (hb : bad ≤ lot) (hC : C ≤ N) :
    totL (fun k => if k ≤ C then 1 else 0) ((listsL lot N).map (foundL bad)) = accN bad (lot - bad) N C := by
  rw [lists_tot h9 hN hb, sumN_cut (fun k => bin bad k * bin (lot - bad) (N - k)) hC]; rfl
end MLab
