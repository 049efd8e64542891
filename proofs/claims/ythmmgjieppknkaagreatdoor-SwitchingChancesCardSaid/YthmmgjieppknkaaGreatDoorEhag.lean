/- Contracts and plain laws that the statements of this seat share (part Ehag). -/
import Derived.Test.YthmmgjieppknkaaGreatDoorEhaa
import Derived.Test.YthmmgjieppknkaaGreatDoorEhad
import Derived.Test.YthmmgjieppknkaaGreatDoorKaa
import Derived.Test.YthmmgjieppknkaaGreatDoorKab
import Derived.Test.YthmmgjieppknkaaGreatDoorKad
import Derived.Test.YthmmgjieppknkaaGreatDoorKai
import Derived.Test.YthmmgjieppknkaaGreatDoorKam
import Derived.Test.YthmmgjieppknkaaGreatDoorKas
import Derived.Test.YthmmgjieppknkaaGreatDoorKat
import Derived.Test.YthmmgjieppknkaaGreatDoorKau
import Derived.Test.YthmmgjieppknkaaGreatDoorKax
import Derived.ProofKit
namespace Go.Proofs.YthmmgjieppknkaaGreatDoor
open MLab
theorem takeW_snoc {α : Type} {L : List α} {i : Nat} {x : α} (h : L[i]? = some x) : L.take (i + 1) = L.take i ++ [x] := by rw [List.take_add_one, h]; rfl
theorem sumW_take_le {α : Type} {L : List (α × Rat)} (hL : ∀ y ∈ L, 0 ≤ y.2) {g : α → Rat} (hg : ∀ a, 0 ≤ g a) (i : Nat) : sumW (L.take i) g ≤ sumW L g := by
  have h := sumW_append g (L.take i) (L.drop i)
  rw [List.take_append_drop] at h
  have := sumW_nonneg (L := L.drop i) (g := g) (fun y hy => hL y ((List.drop_sublist _ _).subset hy)) hg
  grind
theorem okP_right {x : Sw} (h : RightS x) : x.mode ≤ 3 := by have := (rightI_zero h).2.1; omega
theorem good_stop {x : Sw} (h : RightS x) (h3 : x.mode = 3) : ptOf x = begunP 3 := by
  rcases right_cases h with ⟨_, _, rfl, _⟩ | ⟨_, _, rfl, _⟩ | rfl | rfl
  · exact absurd h3 (by simp)
  · exact absurd h3 (by simp)
  · exact absurd h3 (by simp [swB])
  · rfl
theorem good_go (c : Nat → Rat) {x : Sw} (h3 : ¬ x.mode = 3) : goodQ c (ptOf x) = c x.mode := by
  unfold goodQ
  rw [if_neg]
  · rfl
  · intro e
    exact h3 (congrArg Pt.mode e)
theorem oneE_stop (c : Nat → Rat) (g : Pt → Rat) {x : Sw} (h3 : x.mode = 3) : oneE c g (ptOf x) = g (ptOf x) := by
  unfold oneE
  rw [goesP_stop (p := ptOf x) h3, goesP_stop (p := ptOf x) h3]
  grind
theorem take_le {D k : Nat} {c : Nat → Rat} {L : List (Sw × Rat)} (hL : RefI D c k L) {i : Nat} {x : Sw} {p : Rat} (hx : L[i]? = some (x, p)) : sumW (L.take i) (fun _ => 1) + p ≤ 1 := by
  have h := sumW_take_le hL.nn (g := fun _ => 1) (fun _ => by decide) (i + 1)
  rw [takeW_snoc hx, sumW_append, sumW, sumW, hL.one] at h
  grind
theorem addL_len {α : Type} {L L' : List (α × Rat)} {a : α} {x : Rat} (h : AddL L a x L') : L'.length ≤ L.length + 1 := by
  rcases h with ⟨_, rfl⟩ | ⟨j, u, _, rfl⟩
  · simp
  · simp
theorem rmid_sz {D n k i : Nat} {c : Nat → Rat} {L M : List (Sw × Rat)} {x : Sw} {p : Rat} (hc : GrC D n c) (hk : k + 1 ≤ n) (hL : RefI D c k L) (hM : RmidI D c k i L M) (hx : L[i]? = some (x, p)) :
    Sz 500 500 p ∧ ∀ y ∈ M, Sz 500 500 y.2 := by
  have hm := List.mem_of_getElem? hx
  have hp := hL.2.1 _ hm
  have hp0 : 0 ≤ p := hp.nn
  refine ⟨hp.sz500 hc (by omega) (hL.le1 _ hm), fun y hy => (hM.2.1 y hy).sz500 hc hk ?_⟩
  have h1 := sumW_ge hy (fun z hz => (hM.2.1 z hz).nn)
  rw [hM.total] at h1
  have := take_le hL hx
  grind
theorem gr_up {D k : Nat} {p : Rat} (h : Gr D k p) : Gr D (k + 1) p := by
  have := gr_next h (Gr.one D 1)
  rwa [Rat.mul_one] at this
theorem rmid_stop {D k i : Nat} {c : Nat → Rat} {L M M1 : List (Sw × Rat)} {x : Sw} {p : Rat} (hL : RefI D c k L) (hM : RmidI D c k i L M) (hx : L[i]? = some (x, p)) (h3 : x.mode = 3) (h : AddL M x p M1) : RmidI D c k (i + 1) L M1 := by
  have hm := List.mem_of_getElem? hx
  refine ⟨fun g => ?_, h.gr hM.2.1 (gr_up (hL.2.1 _ hm)), h.keys hM.2.2.1 (hL.2.2.1 _ hm), by have := addL_len h; have := hM.2.2.2; omega⟩
  rw [h.sum, hM.1, takeW_snoc hx, sumW_append, sumW, sumW, oneE_stop c g h3]
  grind
theorem rmid_parts {D n k i : Nat} {c : Nat → Rat} {L M : List (Sw × Rat)} {x : Sw} {p : Rat} (hc : GrC D n c) (hk : k + 1 ≤ n) (hL : RefI D c k L) (hM : RmidI D c k i L M) (hx : L[i]? = some (x, p)) (h3 : ¬ x.mode = 3) :
    Sz 500 500 (c x.mode) ∧ Sz 500 500 (1 - c x.mode) ∧ Sz 500 500 (p * c x.mode) ∧ Sz 500 500 (p * (1 - c x.mode)) ∧ ∀ M1, AddL M (goesS x true) (p * c x.mode) M1 → ∀ y ∈ M1, Sz 500 500 y.2 := by
  have hm := List.mem_of_getElem? hx
  have hr := hL.2.2.1 _ hm
  have hp := hL.2.1 _ hm
  have hp0 : 0 ≤ p := hp.nn
  have hp1 : p ≤ 1 := hL.le1 _ hm
  have h2 : x.mode ≤ 2 := by have := okP_right hr; have : x.mode ≤ 3 := this; omega
  have hg := hc.gr _ h2
  have hg1 := hc.le x.mode
  have hg0 := hc.nn x.mode
  have hb := hg.co hg1
  have a1 := mul_le_one' hp0 hp1 hg0 hg1
  have a2 := mul_le_one' hp0 hp1 (show 0 ≤ 1 - c x.mode by grind) (by grind)
  refine ⟨hg.sz500 hc (by omega) hg1, hb.sz500 hc (by omega) (by grind), (gr_next hp hg).sz500 hc hk (by grind), (gr_next hp hb).sz500 hc hk (by grind), fun M1 h1 y hy => ?_⟩
  have hgr := h1.gr hM.2.1 (gr_next hp hg)
  refine (hgr y hy).sz500 hc hk ?_
  have b1 := sumW_ge hy (fun z hz => (hgr z hz).nn)
  rw [h1.sum, hM.total] at b1
  have := take_le hL hx
  grind
theorem rmid_go {D n k i : Nat} {c : Nat → Rat} {L M M1 M2 : List (Sw × Rat)} {x : Sw} {p : Rat} (hc : GrC D n c) (hL : RefI D c k L) (hM : RmidI D c k i L M) (hx : L[i]? = some (x, p)) (h3 : ¬ x.mode = 3)
    (h1 : AddL M (goesS x true) (p * c x.mode) M1) (h2 : AddL M1 (goesS x false) (p * (1 - c x.mode)) M2) : RmidI D c k (i + 1) L M2 := by
  have hm := List.mem_of_getElem? hx
  have hr : RightS x := hL.2.2.1 _ hm
  have hp := hL.2.1 _ hm
  have hx2 : x.mode ≤ 2 := by have := okP_right hr; omega
  have hg := hc.gr _ hx2
  have hb := hg.co (hc.le x.mode)
  refine ⟨fun g => ?_, h2.gr (h1.gr hM.2.1 (gr_next hp hg)) (gr_next hp hb), h2.keys (h1.keys hM.2.2.1 (goesS_ok hr true).2) (goesS_ok hr false).2, by have := addL_len h1; have := addL_len h2; have := hM.2.2.2; omega⟩
  rw [h2.sum, h1.sum, hM.1, takeW_snoc hx, sumW_append, sumW, sumW, (goesS_ok hr true).1, (goesS_ok hr false).1]
  show _ = sumW (List.take i L) (fun s => oneE c g (ptOf s)) + (p * oneE c g (ptOf x) + 0)
  have e : oneE c g (ptOf x) = c x.mode * g (goesP (ptOf x) true) + (1 - c x.mode) * g (goesP (ptOf x) false) := by unfold oneE; rw [good_go c h3]
  rw [e]
  grind
theorem rmid_done {D k : Nat} {c : Nat → Rat} {L M : List (Sw × Rat)} (hL : RefI D c k L) (hM : RmidI D c k L.length L M) : RefI D c (k + 1) M := by
  refine ⟨fun g => ?_, hM.2.1, hM.2.2.1, by have := hM.2.2.2; have := hL.2.2.2; rw [Nat.pow_succ]; omega⟩
  rw [hM.1, List.take_length]
  exact hL.1 (oneE c g)
def outR (L : List (Sw × Rat)) (i m : Nat) : Rat := sumW (L.take i) (fun s => ind1 m s.mode)
theorem outR_zero (L : List (Sw × Rat)) (m : Nat) : outR L 0 m = 0 := by unfold outR; rw [List.take_zero, sumW]
theorem outR_step {L : List (Sw × Rat)} {i : Nat} {x : Sw} {p : Rat} (hx : L[i]? = some (x, p)) (m : Nat) : outR L (i + 1) m = if m = x.mode then outR L i m + p else outR L i m := by
  unfold outR
  rw [takeW_snoc hx, sumW_append, sumW, sumW]
  show _ + (p * ind1 m x.mode + 0) = _
  unfold ind1
  by_cases e : m = x.mode
  · rw [if_pos e, if_pos e.symm]; grind
  · rw [if_neg e, if_neg fun h => e h.symm]; grind
theorem outR_done {D k : Nat} {c : Nat → Rat} {L : List (Sw × Rat)} (hL : RefI D c k L) (m : Nat) : outR L L.length m = modeQ c k m := by
  unfold outR modeQ
  rw [List.take_length]
  exact hL.1 (isM m)
theorem outR_sz {D n k : Nat} {c : Nat → Rat} {L : List (Sw × Rat)} (hc : GrC D n c) (hk : k ≤ n) (hL : RefI D c k L) {i : Nat} {x : Sw} {p : Rat} (hx : L[i]? = some (x, p)) (m : Nat) : Sz 500 500 p ∧ Sz 500 500 (outR L i m) := by
  have hm := List.mem_of_getElem? hx
  refine ⟨(hL.2.1 _ hm).sz500 hc hk (hL.le1 _ hm), ?_⟩
  have hgr : ∀ M : List (Sw × Rat), (∀ y ∈ M, Gr D k y.2) → Gr D k (sumW M fun s => ind1 m s.mode) := by
    intro M
    induction M with
    | nil => intro _; rw [sumW]; exact Gr.zero D k
    | cons y M ih =>
      intro hM
      rw [sumW]
      refine Gr.add ?_ (ih fun z hz => hM z (List.mem_cons_of_mem _ hz))
      unfold ind1
      split
      · rw [Rat.mul_one]; exact hM y List.mem_cons_self
      · rw [Rat.mul_zero]; exact Gr.zero D k
  refine (hgr _ fun y hy => hL.2.1 y ((List.take_sublist _ _).subset hy)).sz500 hc hk ?_
  have h1 := sumW_take_le hL.nn (g := fun s => ind1 m s.mode) (fun s => ind1_nn m s.mode) i
  have h2 : sumW L (fun s => ind1 m s.mode) ≤ sumW L (fun _ => 1) := by
    have hle : ∀ M : List (Sw × Rat), (∀ y ∈ M, 0 ≤ y.2) → sumW M (fun s => ind1 m s.mode) ≤ sumW M (fun _ => 1) := by
      intro M
      induction M with
      | nil => intro _; rw [sumW, sumW]; exact Rat.le_refl
      | cons y M ih =>
        intro hM
        rw [sumW, sumW]
        have a := ih fun z hz => hM z (List.mem_cons_of_mem _ hz)
        have b : ind1 m y.1.mode ≤ 1 := by unfold ind1; split <;> decide
        have d := Rat.mul_le_mul_of_nonneg_left b (hM y List.mem_cons_self)
        grind
    exact hle L hL.nn
  rw [hL.one] at h2
  exact Rat.le_trans h1 h2
theorem grC_of {c : Nat → Rat} {n : Nat} (h0 : ∀ m, 0 ≤ c m) (h1 : ∀ m, c m ≤ 1) (hs : ((c 0).den * (c 1).den * (c 2).den) ^ n ≤ 10 ^ 499) : GrC ((c 0).den * (c 1).den * (c 2).den) n c := by
  have a := (c 0).den_pos
  have b := (c 1).den_pos
  have d := (c 2).den_pos
  refine ⟨Nat.mul_pos (Nat.mul_pos a b) d, fun m hm => ?_, h1, h0, hs⟩
  rcases (by omega : m = 0 ∨ m = 1 ∨ m = 2) with rfl | rfl | rfl
  · rw [Nat.mul_assoc]; exact Gr.of (h0 0) _
  · rw [show (c 0).den * (c 1).den * (c 2).den = (c 1).den * ((c 0).den * (c 2).den) by rw [Nat.mul_comm (c 0).den, Nat.mul_assoc]]; exact Gr.of (h0 1) _
  · rw [Nat.mul_comm]; exact Gr.of (h0 2) _
end Go.Proofs.YthmmgjieppknkaaGreatDoor
