/- Contracts and plain laws that the statements of this seat share (part Ktab). -/
import Derived.ProofKit
namespace MLab
structure Pt where
  mode : Nat
  run : Nat
  last : Nat
  rej : Nat
deriving DecidableEq
def begunP (m : Nat) : Pt := ⟨m, 0, 1, 0⟩
def lastN (l : Nat) (ok : Bool) : Nat := let l2 := 2 * l + (if ok then 1 else 0); if 32 ≤ l2 then 16 + l2 % 16 else l2
def normalP (p : Pt) (ok : Bool) : Pt :=
  if ok = false ∧ ¬ p.last &&& (p.last + 1) = 0 then begunP 1
  else if ok = false then ⟨p.mode, 0, lastN p.last ok, p.rej⟩
  else if p.run + 1 = 10 then begunP 2 else ⟨p.mode, p.run + 1, lastN p.last ok, p.rej⟩
def tightP (p : Pt) (ok : Bool) : Pt :=
  if ok = true then (if p.run + 1 = 5 then begunP 0 else ⟨p.mode, p.run + 1, p.last, p.rej⟩)
  else if p.rej + 1 = 5 then begunP 3 else ⟨p.mode, 0, p.last, p.rej + 1⟩
def redP (p : Pt) (ok : Bool) : Pt := if ok = true then p else begunP 0
def goesP (p : Pt) (ok : Bool) : Pt :=
  if p.mode = 3 then p else if p.mode = 0 then normalP p ok else if p.mode = 1 then tightP p ok else redP p ok
def OkP (p : Pt) : Prop := p.mode ≤ 3 ∧ p.run ≤ 9 ∧ 1 ≤ p.last ∧ p.last ≤ 31 ∧ p.rej ≤ 4 ∧ (p.mode = 1 → p.run ≤ 4) ∧ (p.mode = 3 → p = begunP 3)
theorem okP_begun {m : Nat} (h : m ≤ 3) : OkP (begunP m) := ⟨h, Nat.zero_le _, Nat.le_refl _, (by show 1 ≤ 31; decide), Nat.zero_le _, fun _ => Nat.zero_le _, fun e => by rw [show m = 3 from e]⟩
theorem lastN_ok {l : Nat} (h1 : 1 ≤ l) (h2 : l ≤ 31) (ok : Bool) : 1 ≤ lastN l ok ∧ lastN l ok ≤ 31 := by
  unfold lastN
  cases ok <;> simp <;> split <;> omega
theorem okP_goes {p : Pt} (h : OkP p) (ok : Bool) : OkP (goesP p ok) := by
  obtain ⟨h1, h2, h3, h4, h5, h6, h7⟩ := h
  have hl := lastN_ok h3 h4 ok
  unfold goesP
  by_cases m3 : p.mode = 3
  · rw [if_pos m3]; exact ⟨h1, h2, h3, h4, h5, h6, h7⟩
  · rw [if_neg m3]
    by_cases m0 : p.mode = 0
    · rw [if_pos m0]; unfold normalP
      split
      · exact okP_begun (by omega)
      · split
        · exact ⟨h1, Nat.zero_le _, hl.1, hl.2, h5, fun _ => Nat.zero_le _, fun e => absurd e m3⟩
        · split
          · exact okP_begun (by omega)
          · exact ⟨h1, (by show p.run + 1 ≤ 9; omega), hl.1, hl.2, h5, fun e => absurd (show p.mode = 1 from e) (by omega), fun e => absurd e m3⟩
    · rw [if_neg m0]
      by_cases m1 : p.mode = 1
      · rw [if_pos m1]; unfold tightP
        have h6' := h6 m1
        split
        · split
          · exact okP_begun (by omega)
          · exact ⟨h1, (by show p.run + 1 ≤ 9; omega), h3, h4, h5, fun _ => (by show p.run + 1 ≤ 4; omega), fun e => absurd e m3⟩
        · split
          · exact okP_begun (by omega)
          · exact ⟨h1, Nat.zero_le _, h3, h4, (by show p.rej + 1 ≤ 4; omega), fun _ => Nat.zero_le _, fun e => absurd e m3⟩
      · rw [if_neg m1]; unfold redP
        split
        · exact ⟨h1, h2, h3, h4, h5, h6, h7⟩
        · exact okP_begun (by omega)
def goodQ (c : Nat → Rat) (p : Pt) : Rat := if p = begunP 3 then 1 else c p.mode
def oneE (c : Nat → Rat) (f : Pt → Rat) (p : Pt) : Rat := goodQ c p * f (goesP p true) + (1 - goodQ c p) * f (goesP p false)
def expE (c : Nat → Rat) : Nat → (Pt → Rat) → Pt → Rat
  | 0, f, p => f p
  | n + 1, f, p => expE c n (oneE c f) p
def sumW {α : Type} : List (α × Rat) → (α → Rat) → Rat
  | [], _ => 0
  | x :: L, g => x.2 * g x.1 + sumW L g
theorem sumW_append {α : Type} (g : α → Rat) : ∀ (L M : List (α × Rat)), sumW (L ++ M) g = sumW L g + sumW M g
  | [], M => by rw [List.nil_append, sumW]; grind
  | x :: L, M => by rw [List.cons_append, sumW, sumW, sumW_append g L M]; grind
theorem sumW_nonneg {α : Type} {g : α → Rat} : ∀ {L : List (α × Rat)}, (∀ x ∈ L, 0 ≤ x.2) → (∀ p, 0 ≤ g p) → 0 ≤ sumW L g
  | [], _, _ => by rw [sumW]; exact Rat.le_refl
  | x :: L, h, hg => by
    rw [sumW]
    have h1 := Rat.mul_nonneg (h x List.mem_cons_self) (hg x.1)
    have h2 := sumW_nonneg (fun y hy => h y (List.mem_cons_of_mem _ hy)) hg
    grind
theorem sumW_ge {α : Type} {L : List (α × Rat)} {x : α × Rat} (hx : x ∈ L) (h : ∀ y ∈ L, 0 ≤ y.2) : x.2 ≤ sumW L (fun _ => 1) := by
  induction L with
  | nil => simp at hx
  | cons y L ih =>
    rw [sumW]
    have h2 := sumW_nonneg (L := L) (g := fun _ => 1) (fun z hz => h z (List.mem_cons_of_mem _ hz)) (fun _ => by decide)
    rcases List.mem_cons.1 hx with rfl | hx
    · grind
    · have := ih hx (fun z hz => h z (List.mem_cons_of_mem _ hz))
      have := h y List.mem_cons_self
      grind
theorem oneE_const (c : Nat → Rat) (k : Rat) (p : Pt) : oneE c (fun _ => k) p = k := by unfold oneE; grind
theorem expE_const (c : Nat → Rat) (k : Rat) : ∀ n p, expE c n (fun _ => k) p = k
  | 0, _ => rfl
  | n + 1, p => by
    rw [expE, show oneE c (fun _ => k) = fun _ => k from funext fun p => oneE_const c k p]
    exact expE_const c k n p
theorem goodQ_nn {c : Nat → Rat} (h : ∀ m, 0 ≤ c m ∧ c m ≤ 1) (p : Pt) : 0 ≤ goodQ c p ∧ goodQ c p ≤ 1 := by
  unfold goodQ
  split
  · exact ⟨by decide, by decide⟩
  · exact h _
def isM (m : Nat) (p : Pt) : Rat := if p.mode = m then 1 else 0
def modeQ (c : Nat → Rat) (n m : Nat) : Rat := expE c n (isM m) (begunP 0)
theorem goesP_stop {p : Pt} (h : p.mode = 3) (ok : Bool) : goesP p ok = p := by unfold goesP; rw [if_pos h]
end MLab

namespace MLab
def Gr (D n : Nat) (q : Rat) : Prop := 0 ≤ q ∧ ∃ k : Nat, q * ((D ^ n : Nat) : Rat) = (k : Rat)
theorem Gr.mul {D n m : Nat} {p q : Rat} (hp : Gr D n p) (hq : Gr D m q) : Gr D (n + m) (p * q) := by
  obtain ⟨h1, k, h2⟩ := hp
  obtain ⟨g1, j, g2⟩ := hq
  refine ⟨Rat.mul_nonneg h1 g1, k * j, ?_⟩
  rw [Nat.pow_add, Rat.natCast_mul, Rat.natCast_mul, ← h2, ← g2]; grind
theorem Gr.add {D n : Nat} {p q : Rat} (hp : Gr D n p) (hq : Gr D n q) : Gr D n (p + q) := by
  obtain ⟨h1, k, h2⟩ := hp
  obtain ⟨g1, j, g2⟩ := hq
  refine ⟨by grind, k + j, ?_⟩
  rw [Rat.natCast_add, ← h2, ← g2]; grind
theorem Gr.zero (D n : Nat) : Gr D n 0 := ⟨by decide, 0, by grind⟩
theorem Gr.one (D n : Nat) : Gr D n 1 := ⟨by decide, D ^ n, by grind⟩
theorem Gr.nn {D n : Nat} {q : Rat} (h : Gr D n q) : 0 ≤ q := h.1
theorem Gr.sz {D n m : Nat} {q : Rat} (hD : 0 < D) (h : Gr D n q) (h1 : q ≤ 1) (hm : D ^ n ≤ 10 ^ m) : q.num.natAbs < 10 ^ (m + 1) ∧ q.den ≤ 10 ^ (m + 1) := by
  obtain ⟨h0, k, hk⟩ := h
  have hpos : 0 < D ^ n := Nat.pow_pos hD
  have hne : ((D ^ n : Nat) : Rat) ≠ 0 := by
    intro e
    have : (D ^ n : Nat) = 0 := by exact_mod_cast e
    omega
  have hq : q = Rat.divInt (k : Int) ((D ^ n : Nat) : Int) := by
    rw [Rat.divInt_eq_div]
    have e1 : (((k : Int)) : Rat) = (k : Rat) := rfl
    have e2 : ((((D ^ n : Nat) : Int)) : Rat) = ((D ^ n : Nat) : Rat) := rfl
    rw [e1, e2, ← hk]
    grind
  have hden : q.den ≤ D ^ n := by
    rw [hq, Rat.den_divInt, if_neg (by omega)]
    exact Nat.le_trans (Nat.div_le_self _ _) (by omega)
  have hnum : q.num ≤ (q.den : Int) := by
    have := (Rat.le_iff _ _).1 h1
    simpa using this
  have hn0 : 0 ≤ q.num := Rat.num_nonneg.2 h0
  have hp : (10 : Nat) ^ m < 10 ^ (m + 1) := Nat.pow_lt_pow_right (by omega) (by omega)
  constructor
  · omega
  · omega
theorem Gr.co {D n : Nat} {q : Rat} (h : Gr D n q) (h1 : q ≤ 1) : Gr D n (1 - q) := by
  obtain ⟨h0, k, hk⟩ := h
  have hle : (k : Rat) ≤ ((D ^ n : Nat) : Rat) := by
    rw [← hk]
    have := Rat.mul_le_mul_of_nonneg_right h1 (c := ((D ^ n : Nat) : Rat)) (by exact_mod_cast Nat.zero_le _)
    grind
  have hle' : k ≤ D ^ n := by exact_mod_cast hle
  refine ⟨by grind, D ^ n - k, ?_⟩
  have : ((D ^ n - k : Nat) : Rat) = ((D ^ n : Nat) : Rat) - (k : Rat) := by
    have h2 : ((D ^ n - k : Nat) : Rat) + (k : Rat) = ((D ^ n : Nat) : Rat) := by rw [← Rat.natCast_add]; congr 1; omega
    grind
  rw [this, ← hk]; grind
def AddL {α : Type} (L : List (α × Rat)) (a : α) (x : Rat) (L' : List (α × Rat)) : Prop :=
  ((∀ y ∈ L, y.1 ≠ a) ∧ L' = L ++ [(a, 0 + x)]) ∨ ∃ (j : Nat) (u : Rat), L[j]? = some (a, u) ∧ L' = L.set j (a, u + x)
theorem sumW_set {α : Type} (g : α → Rat) : ∀ {L : List (α × Rat)} {j : Nat} {a : α} {u : Rat} (v : Rat), L[j]? = some (a, u) → sumW (L.set j (a, v)) g = sumW L g + (v - u) * g a
  | [], _, _, _, _, h => by simp at h
  | x :: L, 0, a, u, v, h => by
    obtain rfl : x = (a, u) := by simpa using h
    rw [List.set_cons_zero, sumW, sumW]; grind
  | x :: L, j + 1, a, u, v, h => by
    rw [List.set_cons_succ, sumW, sumW, sumW_set g v (by simpa using h)]; grind
theorem AddL.sum {α : Type} {L L' : List (α × Rat)} {a : α} {x : Rat} (h : AddL L a x L') (g : α → Rat) : sumW L' g = sumW L g + x * g a := by
  rcases h with ⟨_, rfl⟩ | ⟨j, u, hj, rfl⟩
  · rw [sumW_append, sumW, sumW]; grind
  · rw [sumW_set g _ hj]; grind
theorem AddL.gr {α : Type} {L L' : List (α × Rat)} {a : α} {x : Rat} {D n : Nat} (h : AddL L a x L') (hL : ∀ y ∈ L, Gr D n y.2) (hx : Gr D n x) : ∀ y ∈ L', Gr D n y.2 := by
  rcases h with ⟨_, rfl⟩ | ⟨j, u, hj, rfl⟩
  · intro y hy
    rcases List.mem_append.1 hy with hy | hy
    · exact hL y hy
    · obtain rfl := List.mem_singleton.1 hy
      rw [show (0 : Rat) + x = x by grind]; exact hx
  · intro y hy
    rcases List.mem_or_eq_of_mem_set hy with hy | rfl
    · exact hL y hy
    · exact (hL _ (List.mem_of_getElem? hj)).add hx
theorem AddL.nodup {α : Type} {L L' : List (α × Rat)} {a : α} {x : Rat} (h : AddL L a x L') (hL : (L.map (·.1)).Nodup) : (L'.map (·.1)).Nodup := by
  rcases h with ⟨h1, rfl⟩ | ⟨j, u, hj, rfl⟩
  · rw [List.map_append, List.nodup_append]
    refine ⟨hL, by simp, ?_⟩
    intro k hk k2 hk2
    obtain ⟨y, hy, rfl⟩ := List.mem_map.1 hk
    obtain rfl : k2 = a := by simpa using hk2
    exact h1 y hy
  · have e : (L.set j (a, u + x)).map (·.1) = L.map (·.1) := by
      rw [List.map_set]
      refine List.ext_getElem? fun i => ?_
      rw [List.getElem?_set]
      split
      · rename_i hij
        subst hij
        split
        · rw [List.getElem?_map, hj]; rfl
        · rename_i hl
          rw [List.getElem?_map]
          have := (List.getElem?_eq_some_iff.1 hj).1
          simp at hl; omega
      · rfl
    rw [e]; exact hL
theorem sumW_mono {α : Type} {g : α → Rat} {T R L : List (α × Rat)} (hs : ∀ g, sumW T g + sumW R g = sumW L g) (hR : ∀ x ∈ R, 0 ≤ x.2) (hg : ∀ p, 0 ≤ g p) : sumW T g ≤ sumW L g := by
  have h1 := hs g
  have h2 := sumW_nonneg hR hg
  grind
def LawN (c : Nat → Rat) (n : Nat) (L : List (Pt × Rat)) : Prop := ∀ g : Pt → Rat, sumW L g = expE c n g (begunP 0)
theorem expE_succ (c : Nat → Rat) : ∀ (n : Nat) (f : Pt → Rat) (p : Pt), expE c (n + 1) f p = expE c n (oneE c f) p := fun _ _ _ => rfl
theorem LawN.one {c : Nat → Rat} {n : Nat} {L : List (Pt × Rat)} (h : LawN c n L) : sumW L (fun _ => 1) = 1 := by rw [h]; exact expE_const c 1 n _
theorem LawN.start (c : Nat → Rat) : LawN c 0 [(begunP 0, 1)] := fun g => by rw [sumW, sumW, expE]; grind
theorem LawN.step {c : Nat → Rat} {n : Nat} {L M : List (Pt × Rat)} (h : LawN c n L) (hM : ∀ g, sumW M g = sumW L (oneE c g)) : LawN c (n + 1) M := fun g => by rw [hM, h, expE_succ]
end MLab

namespace MLab
structure Sw where
  mode : Nat
  run : Nat
  last : List Bool
  rej : Nat
deriving DecidableEq
def swB (m : Nat) : Sw := ⟨m, 0, [], 0⟩
def bitsL (l : List Bool) : Nat := l.foldl (fun a b => 2 * a + (if b then 1 else 0)) 1
def ptOf (x : Sw) : Pt := ⟨x.mode, x.run, bitsL x.last, x.rej⟩
def firstF : List Bool → Option Nat
  | [] => none
  | b :: l => if b then (firstF l).map (· + 1) else some 0
def fitsI (mode run : Int) (l : List Bool) : Bool :=
  if mode ≠ 0 then decide (l.length = 0)
  else match firstF l with
    | some k => !(l.drop (k + 1)).contains false && decide (run = (l.length : Int) - 1 - (k : Int))
    | none => if l.length < 4 then decide (run = (l.length : Int)) else decide (4 ≤ run)
def longI (mode : Int) : Int := if mode = 0 then 10 else if mode = 1 then 5 else 1
def rightI (mode run : Int) (l : List Bool) (rej : Int) : Int :=
  if mode < 0 ∨ 3 < mode then 1
  else if run < 0 ∨ longI mode ≤ run then 2
  else if rej < 0 ∨ (if mode = 1 then 4 else 0) < rej then 2
  else if 4 < l.length then 5
  else if fitsI mode run l = false then 14 else 0
def RightS (x : Sw) : Prop := rightI (x.mode : Int) (x.run : Int) x.last (x.rej : Int) = 0
theorem swB_right {m : Nat} (h : m ≤ 3) : RightS (swB m) := by
  unfold RightS
  rcases (by omega : m = 0 ∨ m = 1 ∨ m = 2 ∨ m = 3) with rfl | rfl | rfl | rfl <;> decide
end MLab

namespace MLab
structure Cr where
  st : Sw
  res : List Bool
  eff : Nat
inductive Lt where
  | good
  | bad
  | worse
  | again
def Lt.val (R : Nat → Nat × Nat) : Lt → Int
  | .good => 0
  | .bad => ((R 0).2 : Int) + 1
  | .worse => ((R 1).2 : Int) + 1
  | .again => -1
end MLab
