/- A region that draws its order, by one condition on what has come up, the frame and the world, that each operation which may come up keeps: as many proofs as operations, however many orders there are. -/
import Derived.Test.YtdkilkliccljeaaGreatDoorMem
import Derived.Deep.RegionHeld3
namespace Go.Proofs.YtdkilkliccljeaaGreatDoor
open Go.RowKit MLab

def all8 (f : Bool → Bool → Bool → Bool → Bool → Bool → Bool → Bool → Bool) : Bool :=
  [false, true].all fun a => [false, true].all fun b => [false, true].all fun c => [false, true].all fun d => [false, true].all fun e => [false, true].all fun g => [false, true].all fun h => [false, true].all fun i => f a b c d e g h i
theorem mem_ft (b : Bool) : b ∈ [false, true] := by cases b <;> simp
theorem all8_spec {f : Bool → Bool → Bool → Bool → Bool → Bool → Bool → Bool → Bool} (h : all8 f = true) (a b c d e g i j : Bool) : f a b c d e g i j = true := by
  unfold all8 at h
  have h1 := List.all_eq_true.1 (List.all_eq_true.1 (List.all_eq_true.1 (List.all_eq_true.1 h a (mem_ft a)) b (mem_ft b)) c (mem_ft c)) d (mem_ft d)
  exact List.all_eq_true.1 (List.all_eq_true.1 (List.all_eq_true.1 (List.all_eq_true.1 h1 e (mem_ft e)) g (mem_ft g)) i (mem_ft i)) j (mem_ft j)
/-- What has come up where number k may come up (of eight operations). -/
theorem ready_flags {ops : Array Oper} {l0 l1 l2 l3 l4 l5 l6 l7 : Bool} (k : Nat) (g : Bool → Bool → Bool → Bool → Bool → Bool → Bool → Bool → Bool)
    (hi : k ∈ Region.ready .any ops #[l0, l1, l2, l3, l4, l5, l6, l7]) (hc : all8 (fun l0 l1 l2 l3 l4 l5 l6 l7 => !(Region.ready .any ops #[l0, l1, l2, l3, l4, l5, l6, l7]).contains k || g l0 l1 l2 l3 l4 l5 l6 l7) = true) : g l0 l1 l2 l3 l4 l5 l6 l7 = true := by
  have h := all8_spec hc l0 l1 l2 l3 l4 l5 l6 l7
  have h1 : (Region.ready .any ops #[l0, l1, l2, l3, l4, l5, l6, l7]).contains k = true := by simpa using hi
  rw [h1] at h
  simpa using h
/-- All have come up. -/
theorem ready_none {ops : Array Oper} {l0 l1 l2 l3 l4 l5 l6 l7 : Bool} (hi : Region.ready .any ops #[l0, l1, l2, l3, l4, l5, l6, l7] = [])
    (hc : all8 (fun l0 l1 l2 l3 l4 l5 l6 l7 => !(Region.ready .any ops #[l0, l1, l2, l3, l4, l5, l6, l7]).isEmpty || (l0 && l1 && l2 && l3 && l4 && l5 && l6 && l7)) = true) : (l0 && l1 && l2 && l3 && l4 && l5 && l6 && l7) = true := by
  have h := all8_spec hc l0 l1 l2 l3 l4 l5 l6 l7
  rw [hi] at h
  simpa using h

theorem count_set_lt {l : Array Bool} {i : Nat} (h : l.getD i true = false) : (l.setIfInBounds i true).toList.count false < l.toList.count false := by
  have hi : i < l.size := by
    rcases Nat.lt_or_ge i l.size with h' | h'
    · exact h'
    · simp [Array.getElem?_eq_none h'] at h
  have hv : l.toList[i]'(by simpa using hi) = false := by
    have : l[i]? = some l[i] := Array.getElem?_eq_getElem hi
    simpa [this] using h
  rw [Array.toList_setIfInBounds, List.count_set (by simpa using hi)]
  have hp : 0 < l.toList.count false := List.count_pos_iff.2 (hv ▸ List.getElem_mem _)
  rw [if_pos (by rw [hv]; rfl), if_neg (by decide)]
  omega

theorem wpAny_inv {P : Program} {ops : Array Oper} {Q : Exit → Act → World → Prop} {md : Region.Mode} {I : Array Bool → Act → World → Prop}
    (step : ∀ l a w i, I l a w → i ∈ Region.ready md ops l → wpOp P ops Q i (fun a' w' => I (l.setIfInBounds i true) a' w') a w)
    (fin : ∀ l a w, I l a w → Region.ready md ops l = [] → Q .normal a w) :
    ∀ fuel l a w, l.toList.count false ≤ fuel → I l a w → wpAny P md ops Q fuel l a w
  | 0, l, a, w, hf, h => by
    have hr : Region.ready md ops l = [] := by
      rw [List.eq_nil_iff_forall_not_mem]
      intro i hi
      have := count_set_lt (mem_ready.1 hi).1
      omega
    exact ⟨hr, fin l a w h hr⟩
  | fuel + 1, l, a, w, hf, h => ⟨fun hr => fin l a w h hr, fun i hi => wpOp_mono (fun a' w' h' => wpAny_inv step fin fuel _ a' w' (by have := count_set_lt (mem_ready.1 hi).1; omega) h') (step l a w i h hi)⟩

theorem wp_region_inv {P : Program} {ops : Array Oper} {Q : Exit → Act → World → Prop} {id : Nat} {a : Act} {w : World} (hm : P.follows .mixedOrders = true) {I : Array Bool → Act → World → Prop}
    (h0 : I (Array.replicate ops.size false) a w.drew)
    (step : ∀ l a w i, I l a w → i ∈ Region.ready .any ops l → wpOp P ops Q i (fun a' w' => I (l.setIfInBounds i true) a' w') a w)
    (fin : ∀ l a w, I l a w → Region.ready .any ops l = [] → Q .normal a w) : (Code.region id ops true).wp P Q a w :=
  wp_region_any hm (wpAny_inv step fin _ _ _ _ (by simp) h0)
end Go.Proofs.YtdkilkliccljeaaGreatDoor
