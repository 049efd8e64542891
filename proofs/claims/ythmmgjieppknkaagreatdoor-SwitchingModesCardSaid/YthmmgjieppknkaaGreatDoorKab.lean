/- Contracts and plain laws that the statements of this seat share (part Kab). -/
import Derived.ProofKit
namespace MLab
structure Pt where
  mode : Nat
  run : Nat
  last : Nat
  rej : Nat
deriving DecidableEq
def begunP (m : Nat) : Pt := ⟨m, 0, 1, 0⟩
def lastN (l : Nat) (ok : Bool) : Nat := let l2 := 2 * l + (if ok then 1 else 0); if 32 ≤ l2 then 16 + l2 % 16 else l2
def normalP (p : Pt) (ok : Bool) : Pt :=
  if ok = false ∧ ¬ p.last &&& (p.last + 1) = 0 then begunP 1
  else if ok = false then ⟨p.mode, 0, lastN p.last ok, p.rej⟩
  else if p.run + 1 = 10 then begunP 2 else ⟨p.mode, p.run + 1, lastN p.last ok, p.rej⟩
def tightP (p : Pt) (ok : Bool) : Pt :=
  if ok = true then (if p.run + 1 = 5 then begunP 0 else ⟨p.mode, p.run + 1, p.last, p.rej⟩)
  else if p.rej + 1 = 5 then begunP 3 else ⟨p.mode, 0, p.last, p.rej + 1⟩
def redP (p : Pt) (ok : Bool) : Pt := if ok = true then p else begunP 0
def goesP (p : Pt) (ok : Bool) : Pt :=
  if p.mode = 3 then p else if p.mode = 0 then normalP p ok else if p.mode = 1 then tightP p ok else redP p ok
def OkP (p : Pt) : Prop := p.mode ≤ 3 ∧ p.run ≤ 9 ∧ 1 ≤ p.last ∧ p.last ≤ 31 ∧ p.rej ≤ 4 ∧ (p.mode = 1 → p.run ≤ 4) ∧ (p.mode = 3 → p = begunP 3)
theorem okP_begun {m : Nat} (h : m ≤ 3) : OkP (begunP m) := ⟨h, Nat.zero_le _, Nat.le_refl _, (by show 1 ≤ 31; decide), Nat.zero_le _, fun _ => Nat.zero_le _, fun e => by rw [show m = 3 from e]⟩
theorem lastN_ok {l : Nat} (h1 : 1 ≤ l) (h2 : l ≤ 31) (ok : Bool) : 1 ≤ lastN l ok ∧ lastN l ok ≤ 31 := by
  unfold lastN
  cases ok <;> simp <;> split <;> omega
theorem okP_goes {p : Pt} (h : OkP p) (ok : Bool) : OkP (goesP p ok) := by
  obtain ⟨h1, h2, h3, h4, h5, h6, h7⟩ := h
  have hl := lastN_ok h3 h4 ok
  unfold goesP
  by_cases m3 : p.mode = 3
  · rw [if_pos m3]; exact ⟨h1, h2, h3, h4, h5, h6, h7⟩
  · rw [if_neg m3]
    by_cases m0 : p.mode = 0
    · rw [if_pos m0]; unfold normalP
      split
      · exact okP_begun (by omega)
      · split
        · exact ⟨h1, Nat.zero_le _, hl.1, hl.2, h5, fun _ => Nat.zero_le _, fun e => absurd e m3⟩
        · split
          · exact okP_begun (by omega)
          · exact ⟨h1, (by show p.run + 1 ≤ 9; omega), hl.1, hl.2, h5, fun e => absurd (show p.mode = 1 from e) (by omega), fun e => absurd e m3⟩
    · rw [if_neg m0]
      by_cases m1 : p.mode = 1
      · rw [if_pos m1]; unfold tightP
        have h6' := h6 m1
        split
        · split
          · exact okP_begun (by omega)
          · exact ⟨h1, (by show p.run + 1 ≤ 9; omega), h3, h4, h5, fun _ => (by show p.run + 1 ≤ 4; omega), fun e => absurd e m3⟩
        · split
          · exact okP_begun (by omega)
          · exact ⟨h1, Nat.zero_le _, h3, h4, (by show p.rej + 1 ≤ 4; omega), fun _ => Nat.zero_le _, fun e => absurd e m3⟩
      · rw [if_neg m1]; unfold redP
        split
        · exact ⟨h1, h2, h3, h4, h5, h6, h7⟩
        · exact okP_begun (by omega)
def goodQ (c : Nat → Rat) (p : Pt) : Rat := if p = begunP 3 then 1 else c p.mode
def oneE (c : Nat → Rat) (f : Pt → Rat) (p : Pt) : Rat := goodQ c p * f (goesP p true) + (1 - goodQ c p) * f (goesP p false)
def expE (c : Nat → Rat) : Nat → (Pt → Rat) → Pt → Rat
  | 0, f, p => f p
  | n + 1, f, p => expE c n (oneE c f) p
def sumW {α : Type} : List (α × Rat) → (α → Rat) → Rat
  | [], _ => 0
  | x :: L, g => x.2 * g x.1 + sumW L g
theorem sumW_append {α : Type} (g : α → Rat) : ∀ (L M : List (α × Rat)), sumW (L ++ M) g = sumW L g + sumW M g
  | [], M => by rw [List.nil_append, sumW]; grind
  | x :: L, M => by rw [List.cons_append, sumW, sumW, sumW_append g L M]; grind
theorem sumW_nonneg {α : Type} {g : α → Rat} : ∀ {L : List (α × Rat)}, (∀ x ∈ L, 0 ≤ x.2) → (∀ p, 0 ≤ g p) → 0 ≤ sumW L g
  | [], _, _ => by rw [sumW]; exact Rat.le_refl
  | x :: L, h, hg => by
    rw [sumW]
    have h1 := Rat.mul_nonneg (h x List.mem_cons_self) (hg x.1)
    have h2 := sumW_nonneg (fun y hy => h y (List.mem_cons_of_mem _ hy)) hg
    grind
theorem sumW_ge {α : Type} {L : List (α × Rat)} {x : α × Rat} (hx : x ∈ L) (h : ∀ y ∈ L, 0 ≤ y.2) : x.2 ≤ sumW L (fun _ => 1) := by
  induction L with
  | nil => simp at hx
  | cons y L ih =>
    rw [sumW]
    have h2 := sumW_nonneg (L := L) (g := fun _ => 1) (fun z hz => h z (List.mem_cons_of_mem _ hz)) (fun _ => by decide)
    rcases List.mem_cons.1 hx with rfl | hx
    · grind
    · have := ih hx (fun z hz => h z (List.mem_cons_of_mem _ hz))
      have := h y List.mem_cons_self
      grind
theorem oneE_const (c : Nat → Rat) (k : Rat) (p : Pt) : oneE c (fun _ => k) p = k := by unfold oneE; grind
theorem expE_const (c : Nat → Rat) (k : Rat) : ∀ n p, expE c n (fun _ => k) p = k
  | 0, _ => rfl
  | n + 1, p => by
    rw [expE, show oneE c (fun _ => k) = fun _ => k from funext fun p => oneE_const c k p]
    exact expE_const c k n p
theorem goodQ_nn {c : Nat → Rat} (h : ∀ m, 0 ≤ c m ∧ c m ≤ 1) (p : Pt) : 0 ≤ goodQ c p ∧ goodQ c p ≤ 1 := by
  unfold goodQ
  split
  · exact ⟨by decide, by decide⟩
  · exact h _
def isM (m : Nat) (p : Pt) : Rat := if p.mode = m then 1 else 0
def modeQ (c : Nat → Rat) (n m : Nat) : Rat := expE c n (isM m) (begunP 0)
theorem goesP_stop {p : Pt} (h : p.mode = 3) (ok : Bool) : goesP p ok = p := by unfold goesP; rw [if_pos h]
end MLab

namespace MLab
def Gr (D n : Nat) (q : Rat) : Prop := 0 ≤ q ∧ ∃ k : Nat, q * ((D ^ n : Nat) : Rat) = (k : Rat)
theorem Gr.mul {D n m : Nat} {p q : Rat} (hp : Gr D n p) (hq : Gr D m q) : Gr D (n + m) (p * q) := by
  obtain ⟨h1, k, h2⟩ := hp
  obtain ⟨g1, j, g2⟩ := hq
  refine ⟨Rat.mul_nonneg h1 g1, k * j, ?_⟩
  rw [Nat.pow_add, Rat.natCast_mul, Rat.natCast_mul, ← h2, ← g2]; grind
theorem Gr.add {D n : Nat} {p q : Rat} (hp : Gr D n p) (hq : Gr D n q) : Gr D n (p + q) := by
  obtain ⟨h1, k, h2⟩ := hp
  obtain ⟨g1, j, g2⟩ := hq
  refine ⟨by grind, k + j, ?_⟩
  rw [Rat.natCast_add, ← h2, ← g2]; grind
theorem Gr.zero (D n : Nat) : Gr D n 0 := ⟨by decide, 0, by grind⟩
theorem Gr.one (D n : Nat) : Gr D n 1 := ⟨by decide, D ^ n, by grind⟩
theorem Gr.nn {D n : Nat} {q : Rat} (h : Gr D n q) : 0 ≤ q := h.1
theorem Gr.sz {D n m : Nat} {q : Rat} (hD : 0 < D) (h : Gr D n q) (h1 : q ≤ 1) (hm : D ^ n ≤ 10 ^ m) : q.num.natAbs < 10 ^ (m + 1) ∧ q.den ≤ 10 ^ (m + 1) := by
  obtain ⟨h0, k, hk⟩ := h
  have hpos : 0 < D ^ n := Nat.pow_pos hD
  have hne : ((D ^ n : Nat) : Rat) ≠ 0 := by
    intro e
    have : (D ^ n : Nat) = 0 := by exact_mod_cast e
    omega
  have hq : q = Rat.divInt (k : Int) ((D ^ n : Nat) : Int) := by
    rw [Rat.divInt_eq_div]
    have e1 : (((k : Int)) : Rat) = (k : Rat) := rfl
    have e2 : ((((D ^ n : Nat) : Int)) : Rat) = ((D ^ n : Nat) : Rat) := rfl
    rw [e1, e2, ← hk]
    grind
  have hden : q.den ≤ D ^ n := by
    rw [hq, Rat.den_divInt, if_neg (by omega)]
    exact Nat.le_trans (Nat.div_le_self _ _) (by omega)
  have hnum : q.num ≤ (q.den : Int) := by
    have := (Rat.le_iff _ _).1 h1
    simpa using this
  have hn0 : 0 ≤ q.num := Rat.num_nonneg.2 h0
  have hp : (10 : Nat) ^ m < 10 ^ (m + 1) := Nat.pow_lt_pow_right (by omega) (by omega)
  constructor
  · omega
  · omega
theorem Gr.of {q : Rat} (h0 : 0 ≤ q) (e : Nat) : Gr (q.den * e) 1 q := by
  refine ⟨h0, q.num.natAbs * e, ?_⟩
  have hn0 : 0 ≤ q.num := Rat.num_nonneg.2 h0
  rw [Nat.pow_one, Rat.natCast_mul, Rat.natCast_mul]
  have h1 : q * (q.den : Rat) = (q.num : Rat) := by
    have hd : (q.den : Rat) ≠ 0 := by exact_mod_cast q.den_nz
    have h2 : Rat.divInt q.num (q.den : Int) = q := Rat.num_divInt_den q
    rw [Rat.divInt_eq_div] at h2
    have h3 : (((q.den : Nat) : Int) : Rat) = (q.den : Rat) := rfl
    rw [h3] at h2
    have h4 : q * (q.den : Rat) = (q.num : Rat) / (q.den : Rat) * (q.den : Rat) := by rw [h2]
    rw [h4]; grind
  have h2 : ((q.num.natAbs : Nat) : Rat) = (q.num : Rat) := by
    have : ((q.num.natAbs : Nat) : Int) = q.num := by omega
    have h3 : (((q.num.natAbs : Nat) : Int) : Rat) = (q.num : Rat) := by rw [this]
    exact h3
  rw [h2, ← h1]; grind
theorem Gr.co {D n : Nat} {q : Rat} (h : Gr D n q) (h1 : q ≤ 1) : Gr D n (1 - q) := by
  obtain ⟨h0, k, hk⟩ := h
  have hle : (k : Rat) ≤ ((D ^ n : Nat) : Rat) := by
    rw [← hk]
    have := Rat.mul_le_mul_of_nonneg_right h1 (c := ((D ^ n : Nat) : Rat)) (by exact_mod_cast Nat.zero_le _)
    grind
  have hle' : k ≤ D ^ n := by exact_mod_cast hle
  refine ⟨by grind, D ^ n - k, ?_⟩
  have : ((D ^ n - k : Nat) : Rat) = ((D ^ n : Nat) : Rat) - (k : Rat) := by
    have h2 : ((D ^ n - k : Nat) : Rat) + (k : Rat) = ((D ^ n : Nat) : Rat) := by rw [← Rat.natCast_add]; congr 1; omega
    grind
  rw [this, ← hk]; grind
def AddL {α : Type} (L : List (α × Rat)) (a : α) (x : Rat) (L' : List (α × Rat)) : Prop :=
  ((∀ y ∈ L, y.1 ≠ a) ∧ L' = L ++ [(a, 0 + x)]) ∨ ∃ (j : Nat) (u : Rat), L[j]? = some (a, u) ∧ L' = L.set j (a, u + x)
theorem sumW_set {α : Type} (g : α → Rat) : ∀ {L : List (α × Rat)} {j : Nat} {a : α} {u : Rat} (v : Rat), L[j]? = some (a, u) → sumW (L.set j (a, v)) g = sumW L g + (v - u) * g a
  | [], _, _, _, _, h => by simp at h
  | x :: L, 0, a, u, v, h => by
    obtain rfl : x = (a, u) := by simpa using h
    rw [List.set_cons_zero, sumW, sumW]; grind
  | x :: L, j + 1, a, u, v, h => by
    rw [List.set_cons_succ, sumW, sumW, sumW_set g v (by simpa using h)]; grind
theorem AddL.sum {α : Type} {L L' : List (α × Rat)} {a : α} {x : Rat} (h : AddL L a x L') (g : α → Rat) : sumW L' g = sumW L g + x * g a := by
  rcases h with ⟨_, rfl⟩ | ⟨j, u, hj, rfl⟩
  · rw [sumW_append, sumW, sumW]; grind
  · rw [sumW_set g _ hj]; grind
theorem AddL.gr {α : Type} {L L' : List (α × Rat)} {a : α} {x : Rat} {D n : Nat} (h : AddL L a x L') (hL : ∀ y ∈ L, Gr D n y.2) (hx : Gr D n x) : ∀ y ∈ L', Gr D n y.2 := by
  rcases h with ⟨_, rfl⟩ | ⟨j, u, hj, rfl⟩
  · intro y hy
    rcases List.mem_append.1 hy with hy | hy
    · exact hL y hy
    · obtain rfl := List.mem_singleton.1 hy
      rw [show (0 : Rat) + x = x by grind]; exact hx
  · intro y hy
    rcases List.mem_or_eq_of_mem_set hy with hy | rfl
    · exact hL y hy
    · exact (hL _ (List.mem_of_getElem? hj)).add hx
theorem AddL.nodup {α : Type} {L L' : List (α × Rat)} {a : α} {x : Rat} (h : AddL L a x L') (hL : (L.map (·.1)).Nodup) : (L'.map (·.1)).Nodup := by
  rcases h with ⟨h1, rfl⟩ | ⟨j, u, hj, rfl⟩
  · rw [List.map_append, List.nodup_append]
    refine ⟨hL, by simp, ?_⟩
    intro k hk k2 hk2
    obtain ⟨y, hy, rfl⟩ := List.mem_map.1 hk
    obtain rfl : k2 = a := by simpa using hk2
    exact h1 y hy
  · have e : (L.set j (a, u + x)).map (·.1) = L.map (·.1) := by
      rw [List.map_set]
      refine List.ext_getElem? fun i => ?_
      rw [List.getElem?_set]
      split
      · rename_i hij
        subst hij
        split
        · rw [List.getElem?_map, hj]; rfl
        · rename_i hl
          rw [List.getElem?_map]
          have := (List.getElem?_eq_some_iff.1 hj).1
          simp at hl; omega
      · rfl
    rw [e]; exact hL
theorem sumW_mono {α : Type} {g : α → Rat} {T R L : List (α × Rat)} (hs : ∀ g, sumW T g + sumW R g = sumW L g) (hR : ∀ x ∈ R, 0 ≤ x.2) (hg : ∀ p, 0 ≤ g p) : sumW T g ≤ sumW L g := by
  have h1 := hs g
  have h2 := sumW_nonneg hR hg
  grind
def LawN (c : Nat → Rat) (n : Nat) (L : List (Pt × Rat)) : Prop := ∀ g : Pt → Rat, sumW L g = expE c n g (begunP 0)
theorem expE_succ (c : Nat → Rat) : ∀ (n : Nat) (f : Pt → Rat) (p : Pt), expE c (n + 1) f p = expE c n (oneE c f) p := fun _ _ _ => rfl
theorem LawN.one {c : Nat → Rat} {n : Nat} {L : List (Pt × Rat)} (h : LawN c n L) : sumW L (fun _ => 1) = 1 := by rw [h]; exact expE_const c 1 n _
theorem LawN.start (c : Nat → Rat) : LawN c 0 [(begunP 0, 1)] := fun g => by rw [sumW, sumW, expE]; grind
theorem LawN.step {c : Nat → Rat} {n : Nat} {L M : List (Pt × Rat)} (h : LawN c n L) (hM : ∀ g, sumW M g = sumW L (oneE c g)) : LawN c (n + 1) M := fun g => by rw [hM, h, expE_succ]
end MLab

namespace MLab
structure Sw where
  mode : Nat
  run : Nat
  last : List Bool
  rej : Nat
deriving DecidableEq
def swB (m : Nat) : Sw := ⟨m, 0, [], 0⟩
def bitsL (l : List Bool) : Nat := l.foldl (fun a b => 2 * a + (if b then 1 else 0)) 1
def ptOf (x : Sw) : Pt := ⟨x.mode, x.run, bitsL x.last, x.rej⟩
def firstF : List Bool → Option Nat
  | [] => none
  | b :: l => if b then (firstF l).map (· + 1) else some 0
def fitsI (mode run : Int) (l : List Bool) : Bool :=
  if mode ≠ 0 then decide (l.length = 0)
  else match firstF l with
    | some k => !(l.drop (k + 1)).contains false && decide (run = (l.length : Int) - 1 - (k : Int))
    | none => if l.length < 4 then decide (run = (l.length : Int)) else decide (4 ≤ run)
def longI (mode : Int) : Int := if mode = 0 then 10 else if mode = 1 then 5 else 1
def rightI (mode run : Int) (l : List Bool) (rej : Int) : Int :=
  if mode < 0 ∨ 3 < mode then 1
  else if run < 0 ∨ longI mode ≤ run then 2
  else if rej < 0 ∨ (if mode = 1 then 4 else 0) < rej then 2
  else if 4 < l.length then 5
  else if fitsI mode run l = false then 14 else 0
def lastB (l : List Bool) (ok : Bool) : List Bool := (l ++ [ok]).drop ((l ++ [ok]).length - 4)
def goesS (x : Sw) (ok : Bool) : Sw :=
  if x.mode = 0 then
    if ok = false ∧ x.last.contains false = true then swB 1
    else if (if ok = true then x.run + 1 else 0) = 10 then swB 2 else ⟨0, if ok = true then x.run + 1 else 0, lastB x.last ok, 0⟩
  else if x.mode = 1 then
    if ok = true then (if x.run = 4 then swB 0 else ⟨1, x.run + 1, [], x.rej⟩)
    else if x.rej = 4 then swB 3 else ⟨1, 0, [], x.rej + 1⟩
  else if x.mode = 2 ∧ ok = false then swB 0 else x
def RightS (x : Sw) : Prop := rightI (x.mode : Int) (x.run : Int) x.last (x.rej : Int) = 0
theorem rightI_zero {mode run : Int} {l : List Bool} {rej : Int} (h : rightI mode run l rej = 0) : 0 ≤ mode ∧ mode ≤ 3 ∧ 0 ≤ run ∧ run < longI mode ∧ 0 ≤ rej ∧ rej ≤ (if mode = 1 then 4 else 0) ∧ l.length ≤ 4 ∧ fitsI mode run l = true := by
  unfold rightI at h
  by_cases h1 : mode < 0 ∨ 3 < mode
  · rw [if_pos h1] at h; omega
  · rw [if_neg h1] at h
    by_cases h2 : run < 0 ∨ longI mode ≤ run
    · rw [if_pos h2] at h; omega
    · rw [if_neg h2] at h
      by_cases h3 : rej < 0 ∨ (if mode = 1 then 4 else 0) < rej
      · rw [if_pos h3] at h; omega
      · rw [if_neg h3] at h
        by_cases h4 : 4 < l.length
        · rw [if_pos h4] at h; omega
        · rw [if_neg h4] at h
          by_cases h5 : fitsI mode run l = false
          · rw [if_pos h5] at h; omega
          · exact ⟨by omega, by omega, by omega, by omega, by omega, by omega, by omega, by simpa using h5⟩
def allB : List (List Bool) := [[], [true], [false], [true, true], [true, false], [false, true], [false, false],
  [true, true, true], [true, true, false], [true, false, true], [true, false, false], [false, true, true], [false, true, false], [false, false, true], [false, false, false],
  [true, true, true, true], [true, true, true, false], [true, true, false, true], [true, true, false, false], [true, false, true, true], [true, false, true, false], [true, false, false, true], [true, false, false, false],
  [false, true, true, true], [false, true, true, false], [false, true, false, true], [false, true, false, false], [false, false, true, true], [false, false, true, false], [false, false, false, true], [false, false, false, false]]
theorem mem_allB : ∀ {l : List Bool}, l.length ≤ 4 → l ∈ allB
  | [], _ => by decide
  | [a], _ => by cases a <;> decide
  | [a, b], _ => by cases a <;> cases b <;> decide
  | [a, b, c], _ => by cases a <;> cases b <;> cases c <;> decide
  | [a, b, c, d], _ => by cases a <;> cases b <;> cases c <;> cases d <;> decide
  | _ :: _ :: _ :: _ :: _ :: _, h => by simp at h
set_option maxRecDepth 100000 in
theorem norm_all : ∀ l ∈ allB, ∀ run : Nat, run < 10 → fitsI 0 (run : Int) l = true → ∀ ok : Bool,
    ptOf (goesS ⟨0, run, l, 0⟩ ok) = goesP (ptOf ⟨0, run, l, 0⟩) ok ∧ RightS (goesS ⟨0, run, l, 0⟩ ok) := by
  unfold RightS
  decide
set_option maxRecDepth 100000 in
theorem tight_all : ∀ run : Nat, run < 5 → ∀ rej : Nat, rej < 5 → ∀ ok : Bool,
    ptOf (goesS ⟨1, run, [], rej⟩ ok) = goesP (ptOf ⟨1, run, [], rej⟩) ok ∧ RightS (goesS ⟨1, run, [], rej⟩ ok) := by
  unfold RightS
  decide
theorem rest_all : ∀ ok : Bool, (ptOf (goesS ⟨2, 0, [], 0⟩ ok) = goesP (ptOf ⟨2, 0, [], 0⟩) ok ∧ RightS (goesS ⟨2, 0, [], 0⟩ ok)) ∧ (ptOf (goesS ⟨3, 0, [], 0⟩ ok) = goesP (ptOf ⟨3, 0, [], 0⟩) ok ∧ RightS (goesS ⟨3, 0, [], 0⟩ ok)) := by
  unfold RightS
  decide
theorem right_cases {x : Sw} (h : RightS x) : (∃ run l, x = ⟨0, run, l, 0⟩ ∧ run < 10 ∧ l.length ≤ 4 ∧ fitsI 0 (run : Int) l = true) ∨ (∃ run rej, x = ⟨1, run, [], rej⟩ ∧ run < 5 ∧ rej < 5) ∨ x = swB 2 ∨ x = swB 3 := by
  obtain ⟨mode, run, l, rej⟩ := x
  obtain ⟨h1, h2, h3, h4, h5, h6, h7, h8⟩ := rightI_zero h
  simp only at h1 h2 h3 h4 h5 h6 h7 h8
  have h9 : mode ≠ 0 → l = [] := fun h => by
    unfold fitsI at h8
    rw [if_pos (by omega)] at h8
    exact List.eq_nil_of_length_eq_zero (of_decide_eq_true h8)
  rcases (by omega : mode = 0 ∨ mode = 1 ∨ mode = 2 ∨ mode = 3) with rfl | rfl | rfl | rfl
  · left
    have : rej = 0 := by simpa using h6
    subst this
    have h4' : (run : Int) < 10 := by simpa [longI] using h4
    exact ⟨run, l, rfl, by omega, h7, h8⟩
  · right; left
    obtain rfl := h9 (by omega)
    have h6' : (rej : Int) ≤ 4 := by simpa using h6
    have h4' : (run : Int) < 5 := by simpa [longI] using h4
    exact ⟨run, rej, rfl, by omega, by omega⟩
  · right; right; left
    obtain rfl := h9 (by omega)
    have h6' : rej = 0 := by simpa using h6
    have h4' : (run : Int) < 1 := by simpa [longI] using h4
    obtain rfl : run = 0 := by omega
    rw [h6']; rfl
  · right; right; right
    obtain rfl := h9 (by omega)
    have h6' : rej = 0 := by simpa using h6
    have h4' : (run : Int) < 1 := by simpa [longI] using h4
    obtain rfl : run = 0 := by omega
    rw [h6']; rfl
theorem goesS_ok {x : Sw} (h : RightS x) (ok : Bool) : ptOf (goesS x ok) = goesP (ptOf x) ok ∧ RightS (goesS x ok) := by
  rcases right_cases h with ⟨run, l, rfl, h1, h2, h3⟩ | ⟨run, rej, rfl, h1, h2⟩ | rfl | rfl
  · exact norm_all l (mem_allB h2) run h1 h3 ok
  · exact tight_all run h1 rej h2 ok
  · exact (rest_all ok).1
  · exact (rest_all ok).2
theorem swB_right {m : Nat} (h : m ≤ 3) : RightS (swB m) := by
  unfold RightS
  rcases (by omega : m = 0 ∨ m = 1 ∨ m = 2 ∨ m = 3) with rfl | rfl | rfl | rfl <;> decide
end MLab

namespace MLab
structure Cr where
  st : Sw
  res : List Bool
  eff : Nat
def cr0 : Cr := ⟨swB 0, [], 0⟩
def stepC (R : Nat → Nat × Nat) (x : Cr) (n : Int) : Cr ⊕ Int :=
  if n = -1 then (if x.st.mode = 3 then .inl ⟨swB 1, x.res, x.eff⟩ else .inr 14)
  else if x.st.mode = 3 then .inr 14
  else if n < 0 ∨ ((R x.st.mode).1 : Int) < n then .inr 2
  else .inl ⟨goesS x.st (decide (n ≤ ((R x.st.mode).2 : Int))), x.res ++ [decide (n ≤ ((R x.st.mode).2 : Int))], x.eff + (R x.st.mode).1⟩
def goC (R : Nat → Nat × Nat) : List Int → Nat → Cr → Cr ⊕ (Nat × Int)
  | [], _, x => .inl x
  | n :: L, i, x => match stepC R x n with
    | .inl y => goC R L (i + 1) y
    | .inr e => .inr (i, e)
theorem goC_cons (R : Nat → Nat × Nat) (n : Int) (L : List Int) (i : Nat) (x : Cr) :
    goC R (n :: L) i x = match stepC R x n with | .inl y => goC R L (i + 1) y | .inr e => .inr (i, e) := rfl
inductive Lt where
  | good
  | bad
  | worse
  | again
def Lt.val (R : Nat → Nat × Nat) : Lt → Int
  | .good => 0
  | .bad => ((R 0).2 : Int) + 1
  | .worse => ((R 1).2 : Int) + 1
  | .again => -1
end MLab
