/- metrolabref01.Chosen; metrolabref26.Power, Trials, Whole, Chance. -/
import Derived.OwnWalk
import Derived.Laws.OwnMore
import Derived.Deep.AppendLies
import Derived.Test.YtaccdkbofhlbkaaGreatDoorRseven
import Derived.Test.YtaccdkbofhlbkaaGreatDoorRarith
import Derived.Test.YtaccdkbofhlbkaaGreatDoorBinm
import Derived.Test.YtaccdkbofhlbkaaGreatDoorInts
namespace Go.Proofs.YtaccdkbofhlbkaaGreatDoor
open Go.RowKit Go.Shelf MLab

theorem info_it : (Tryz.prog.info? 63).map (fun i => (i.zero, i.size, i.bytes)) = some (some (.string ⟨#[]⟩), 1, 16) := by kernel_rfl
/-- The texts of natural numbers. -/
def nts (r : Nat → Nat) (n : Nat) : List Value := (List.range n).map fun p => .string ⟨(T (r p : Int)).toArray⟩
theorem nts_snoc (r : Nat → Nat) (n : Nat) : nts r n ++ [.string ⟨(T (r n : Int)).toArray⟩] = nts r (n + 1) := by simp [nts, List.range_succ]
theorem nts_len (r : Nat → Nat) (n : Nat) : (nts r n).length = n := by simp [nts]
theorem nts_at (r : Nat → Nat) {n p : Nat} (h : p < n) : (nts r n)[p]? = some (.string ⟨(T (r p : Int)).toArray⟩) := by simp [nts, h]
theorem T_one' : T ((1 : Nat) : Int) = [49] := T_one
theorem nts_one (r : Nat → Nat) (h : r 0 = 1) : nts r 1 = [.string ⟨#[49]⟩] := by
  show [Value.string ⟨(T (r 0 : Int)).toArray⟩] = _
  rw [h, show T ((1 : Nat) : Int) = [49] from T_one']
theorem nts_own {w : World} {base n : Nat} {v : Value} {t : TypeId} {r : Nat → Nat} (h : w.ownsRow base t 1 v (n + 1) (nts r (n + 1))) :
    ∃ g cap, v = .slice (some ⟨g, 0, none⟩) (n + 1) cap ∧ g < w.heap.size ∧ ∀ p, p < n + 1 → w.cell? ⟨g, p, none⟩ = some (.string ⟨(T (r p : Int)).toArray⟩) := by
  rcases h.2 with ⟨rfl, h0⟩ | ⟨g, cap, cur, rfl, hb, hgg, hn, hcap, hsz, htake⟩
  · omega
  · exact ⟨g, cap, rfl, (Array.getElem?_eq_some_iff.1 hgg).1, fun p hp => (h.cellAt p (by omega)).trans (nts_at r hp)⟩
theorem owns_kept0 {w w' : World} {base n k : Nat} {v : Value} {t : TypeId} {xs : List Value} (h : w.ownsRow base t k v n xs) (hb : Below w.heap.size w w') : w'.ownsRow base t k v n xs :=
  h.kept (row := none) ⟨hb.os, hb.tape, hb.output, hb.size, fun k hk _ => hb.block k hk⟩ (by cases h : Value.ownBlock _ <;> simp)
theorem owns_drop {w : World} {a b : Nat} {e : TypeId} {size n : Nat} {v : Value} {xs : List Value} (h : w.ownsRow b e size v n xs) (hab : a ≤ b) : w.ownsRow a e size v n xs := by
  refine ⟨h.1, ?_⟩
  rcases h.2 with h2 | ⟨g, cap, cur, hv, hg, r⟩
  · exact .inl h2
  · exact .inr ⟨g, cap, cur, hv, Nat.le_trans hab hg, r⟩

set_option maxRecDepth 100000 in
set_option maxHeartbeats 8000000 in
theorem rchosen_any (w : World) (n k : Nat) (hn : n ≤ 12) (hk : k ≤ n) :
    Calls Tryz.prog 77 #[.int .i64 (n : Int), .int .i64 (k : Int)] w fun e w' => e = .returned (.string ⟨(T (bin n k : Int)).toArray⟩) ∧ Below w.heap.size w w' := by
  have hk0 : ¬ (k : Int) < 0 := by omega
  have hkn : ¬ (n : Int) < (k : Int) := by omega
  obtain ⟨i0, hi, hz0, hz1, hz2⟩ := info_parts info_it
  go_enter Tryz.func77, Tryz.ntmps77
  go_upto_region 4 with (fail)
  have hown0 : (w.alloc (.cells #[.string ⟨#[49]⟩] 63)).ownsRow w.heap.size 63 1 (.slice (some ⟨w.heap.size, 0, none⟩) 1 1) (0 + 1) (nts (bin 0) (0 + 1)) := by
    rw [nts_one _ rfl]
    exact World.ownsRow_lit w #[.string ⟨#[49]⟩] 1 (Nat.le_refl _) (by unfold maxLen; omega) rfl
  have HOWN0 := hide hown0
  have HB0 := hide ((Below.refl w.heap.size w).alloc (Nat.le_refl _) (.cells #[.string ⟨#[49]⟩] 63))
  clear hown0
  generalize (w.alloc (.cells #[.string ⟨#[49]⟩] 63)) = w0 at *
  go_wp2_with fail
  go_loopg [5, 6] n (fun z ov iv wr => ∃ d : Nat, iv = .int .i64 ((d + 1 : Nat) : Int) ∧ z + d = n ∧ wr.ownsRow w.heap.size 63 1 ov (d + 1) (nts (bin d) (d + 1)) ∧ Below w.heap.size w wr)
  case atStart => exact ⟨0, rfl, rfl, HOWN0.out, HB0.out⟩
  case round =>
    obtain ⟨d, rfl, hq, hown, hb⟩ := hrel
    obtain ⟨W1, rfl⟩ : ∃ W, W = wr := ⟨_, rfl⟩
    obtain ⟨g0, hg0⟩ : ∃ g : Nat, g = gk := ⟨_, rfl⟩
    have HQ := hide hq
    have HB := hide hb
    have HG0 := hide hg0
    have hdn : d ≤ n := by omega
    obtain ⟨G, c, rfl, hGl, hcell⟩ := nts_own hown
    have HOWN := hide hown
    have HC := hide hcell
    clear hown hb hg0 hq hcell HOWN0 HB0
    by_cases hlt : d < n
    · have hin : ((d + 1 : Nat) : Int) ≤ (n : Int) := by omega
      obtain ⟨i, hii⟩ : ∃ i, d + 1 = i := ⟨_, rfl⟩
      have hown1 : (W1.alloc (.cells #[.string ⟨#[49]⟩] 63)).ownsRow W1.heap.size 63 1 (.slice (some ⟨W1.heap.size, 0, none⟩) 1 1) (0 + 1) (nts (bin i) (0 + 1)) := by
        rw [nts_one _ (bin_zero _)]
        exact World.ownsRow_lit W1 #[.string ⟨#[49]⟩] 1 (Nat.le_refl _) (by unfold maxLen; omega) rfl
      have HOWN1 := hide hown1
      have HB1 := hide ((Below.refl W1.heap.size W1).alloc (Nat.le_refl _) (.cells #[.string ⟨#[49]⟩] 63))
      have HII := hide hii
      rw [hii] at hin ⊢
      have hi13 : i ≤ 12 := by omega
      clear hown1 hii
      go_wp2_with fail
      go_loopg [7, 8] d (fun z ov iv wi => ∃ e : Nat, iv = .int .i64 ((e + 1 : Nat) : Int) ∧ z + e = d ∧ wi.ownsRow W1.heap.size 63 1 ov (e + 1) (nts (bin i) (e + 1)) ∧ Below W1.heap.size W1 wi)
      case atStart => exact ⟨0, rfl, by omega, HOWN1.out, HB1.out⟩
      case round =>
        obtain ⟨e, rfl, hq, hown, hb⟩ := hrel
        have HQ1 := hide hq
        have HB2 := hide hb
        have HOWN2 := hide hown
        have hsz := hb.size
        have hed : e ≤ d := by omega
        clear hq hown hb HOWN1 HB1
        by_cases hle : e < d
        · have hei : ((e + 1 : Nat) : Int) < (i : Int) := by have := HII.out; omega
          obtain ⟨j, hjj⟩ : ∃ j, e + 1 = j := ⟨_, rfl⟩
          have HJJ := hide hjj
          have hs1 : IntKind.i64.wrap ((j : Int) - 1) = (e : Int) := (IntWalk.i64_in _ (by omega)).trans (by omega)
          have hw1 : IntKind.i64.wrap ((j : Int) + 1) = ((j + 1 : Nat) : Int) := (IntWalk.i64_in _ (by omega)).trans (by omega)
          have c0 : wr.cell? ⟨G, e, none⟩ = some (.string ⟨(T (bin d e : Int)).toArray⟩) := (bcell HB2.out _ _ hGl).trans (HC.out e (by omega))
          have c1 : wr.cell? ⟨G, j, none⟩ = some (.string ⟨(T (bin d j : Int)).toArray⟩) := (bcell HB2.out _ _ hGl).trans (HC.out j (by omega))
          have he0 : (0 : Int) ≤ (e : Int) := by omega
          have he1 : (e : Int) < (i : Int) := by have := HII.out; omega
          have hj0 : (0 : Int) ≤ (j : Int) := by omega
          have hj1 : (j : Int) < (i : Int) := by have := HII.out; omega
          have hbs : (bin d e : Int) + (bin d j : Int) = (bin i j : Int) := by
            have := HII.out
            subst this; subst hjj
            rw [bin_ss]; omega
          have hq1 := bin_le_pow d e
          have hq2 := bin_le_pow d j
          have hq3 : 2 ^ d ≤ 2 ^ 12 := Nat.pow_le_pow_right (by omega) (by omega)
          have MP := hide (fun W => rplus_any W ⟨(T (bin d e : Int)).toArray⟩ ⟨(T (bin d j : Int)).toArray⟩ _ _ (rtwo_of (k := 5) (l := 5) (by omega) (by omega) (by omega) (by omega)))
          rw [hbs] at MP
          rw [hjj] at hei ⊢
          have HJ1 := hide (show wr.ownsRow W1.heap.size 63 1 u7 j (nts (bin i) j) by rw [← hjj]; exact HOWN2.out)
          have hd13 : d + 1 ≤ 13 := by omega
          obtain ⟨b1, hb1⟩ : ∃ b, bin d e = b := ⟨_, rfl⟩
          obtain ⟨b2, hb2⟩ : ∃ b, bin d j = b := ⟨_, rfl⟩
          rw [hb1] at c0 MP
          rw [hb2] at c1 MP
          have hj13 : j ≤ 12 := by omega
          clear hjj hbs hq1 hq2 hq3 HOWN2 hb1 hb2
          have SK : ∀ w', Below W1.heap.size wr w' → Below W1.heap.size wr w' ∧ w'.cell? ⟨G, e, none⟩ = some (.string ⟨(T (b1 : Int)).toArray⟩) ∧ w'.cell? ⟨G, j, none⟩ = some (.string ⟨(T (b2 : Int)).toArray⟩) := fun w' h => ⟨h, (bcell h _ _ hGl).trans c0, (bcell h _ _ hGl).trans c1⟩
          go_upto_region 11 with (fail)
          go_region_held3 (fun w' => Below W1.heap.size wr w' ∧ w'.cell? ⟨G, e, none⟩ = some (.string ⟨(T (b1 : Int)).toArray⟩) ∧ w'.cell? ⟨G, j, none⟩ = some (.string ⟨(T (b2 : Int)).toArray⟩)) (first | exact SK _ (Below.refl _ _).drew | exact SK _ (Below.refl _ _) | exact SK _ (by assumption) | exact SK _ ((by assumption : Below W1.heap.size wr wx).alloc hwx _))
            (first
              | (go_at_call 84; refine (MP.out _).mono ?_; rintro ee wx ⟨rfl, hbW⟩; have hd0 : Below wr.heap.size wr wx := (Below.refl _ _).drew.trans hbW; have hd : Below W1.heap.size wr wx := hd0.mono hsz; have hwx : W1.heap.size ≤ wx.heap.size := Nat.le_trans hsz hd0.size; have hown3 := owns_kept0 HJ1.out hd0)
              | ((refine step_append_lies _ (by rfl) _ _ 116 (by rfl) W1.heap.size 63 i0 (.string ⟨#[]⟩) 1 16 Tryz.underlying116 hi hz0 hz1 hz2 rfl (by decide) _ j _ (by rfl) (hown3.alloc _) ⟨wx.heap.size, 0, none⟩ 1 1 [.string ⟨(T (bin i j : Int)).toArray⟩] (by rfl) rfl (World.news_of_block (cs := #[.string ⟨(T (bin i j : Int)).toArray⟩]) (heap_alloc_new wx _)) (by intro u hu; simp at hu; subst hu; rfl) (by omega) (by unfold maxLen; omega) (by omega) (by simp; omega) (wx.heap.size + 1) (by simp) ?_; intro g cap w9 hown9 hgrow9 hat9 hlt9; have hb9 : Below W1.heap.size wr w9 := (hd.alloc hwx _).grown hgrow9 (by simp; omega) (fun k e => (hown3.lt k e).1))))
          rw [nts_snoc] at hown9
          have HO2 := hide hown9
          have HX := hide (HB2.out.trans hb9)
          clear hown9 hgrow9 hat9 hlt9 hb9 hown3 SK c0 c1
          go_wp2_with fail
          go_roundg (gk - 1)
          case measure => have := HQ1.out; omega
          case rel => exact ⟨j, rfl, by have := HQ1.out; have := HJJ.out; omega, HO2.out, HX.out⟩
        · have hei : ¬ ((e + 1 : Nat) : Int) < (i : Int) := by have := HII.out; omega
          have he1 : e + 1 = i := by have := HII.out; omega
          have hown3 : wr.ownsRow W1.heap.size 63 1 u7 i (nts (bin i) i) := by have h := HOWN2.out; rw [he1] at h; exact h
          have hlast : nts (bin i) i ++ [.string ⟨#[49]⟩] = nts (bin i) (i + 1) := by
            rw [← nts_snoc, bin_self, T_one']
          have HLAST := hide hlast
          have hw1 : IntKind.i64.wrap ((i : Int) + 1) = ((i + 1 : Nat) : Int) := (IntWalk.i64_in _ (by omega)).trans (by omega)
          clear he1 hlast HOWN2
          go_wp2_with (at_builtin; refine wpList_append_own _ rfl _ _ 116 rfl W1.heap.size 63 i0 (.string ⟨#[]⟩) 1 16 Tryz.underlying116 hi hz0 hz1 hz2 rfl (by decide) _ _ _ rfl (hown3.alloc _) ⟨wr.heap.size, 0, none⟩ 1 1 [.string ⟨#[49]⟩] rfl rfl ?he1 ?he2 ?he3 ?he4 ?he5 ?_)
          try (case he1 => (intro j u hj; match j, hj with | 0, hj => (simp at hj; subst hj; simp [Addr.add])))
          try (case he2 => first | (intro u hu; simp at hu; subst hu; rfl) | rfl | simp [Value.oneCell'])
          try (case he3 => first | (unfold maxLen; omega) | (simp [maxLen]))
          try (case he4 => (omega))
          try (case he5 => first | (simp; omega) | omega | simp)
          intro v4 w4 ho4 hg4 _
          rw [HLAST.out] at ho4
          have hb4 : Below W1.heap.size wr w4 := ((Below.refl wr.heap.size wr).mono hsz |>.alloc hsz _).grown hg4 (by simp; omega) (fun k e => (hown3.lt k e).1)
          have HO4 := hide ho4
          have HB4 := hide (HB2.out.trans hb4)
          clear hg4 ho4 hb4 hown3
          go_wp2_with fail
          go_roundg (g0 - 1)
          case measure => have := HQ.out; have := HG0.out; omega
          case rel => exact ⟨i, rfl, by have := HQ.out; have := HG0.out; have := HII.out; omega, owns_drop HO4.out HB.out.size, HB.out.trans (HB4.out.mono HB.out.size)⟩
    · have hin : ¬ ((d + 1 : Nat) : Int) ≤ (n : Int) := by omega
      have hdn2 : d = n := by omega
      subst hdn2
      have c0 : W1.cell? ⟨G, k, none⟩ = some (.string ⟨(T (bin d k : Int)).toArray⟩) := HC.out k (by omega)
      have he0 : (0 : Int) ≤ (k : Int) := by omega
      have he1 : (k : Int) < ((d + 1 : Nat) : Int) := by omega
      go_wp2_with fail
      go_ret
      exact ⟨rfl, HB.out⟩

set_option maxRecDepth 100000 in
set_option maxHeartbeats 4000000 in
theorem rpower_any (w : World) (n k : Nat) (hn : n ≤ 10) (hk : k ≤ 40) :
    Calls Tryz.prog 78 #[.int .i64 (n : Int), .int .i64 (k : Int)] w fun e w' => e = .returned (.string ⟨(T ((n ^ k : Nat) : Int)).toArray⟩) ∧ Below w.heap.size w w' := by
  have HOF := hide (fun W => rof_any (n : Int) (by omega) (by omega) W)
  go_enter Tryz.func78, Tryz.ntmps78
  go_wp2_with fail
  go_loopg [5, 6] k (fun z ov iv wr => ∃ j : Nat, iv = .int .i64 (j : Int) ∧ z + j = k ∧ ov = .string ⟨(T ((n ^ j : Nat) : Int)).toArray⟩ ∧ Below w.heap.size w wr)
  case atStart => exact ⟨0, rfl, by omega, by rw [Nat.pow_zero, T_one'], Below.refl _ _⟩
  case round =>
    obtain ⟨j, rfl, hq, rfl, hb⟩ := hrel
    have HQ := hide hq
    have HB := hide hb
    have hjk : j ≤ k := by omega
    clear hq hb
    by_cases hlt : j < k
    · have hin : (j : Int) < (k : Int) := by omega
      have hp : n ^ j ≤ 10 ^ 40 := Nat.le_trans (Nat.pow_le_pow_left hn j) (Nat.pow_le_pow_right (by omega) (by omega))
      have MT := hide (fun W => rtimes_int W ⟨(T ((n ^ j : Nat) : Int)).toArray⟩ ⟨(T (n : Int)).toArray⟩ _ _ (rtwo_of (k := 41) (l := 3) (by omega) (by omega) (by omega) (by omega)))
      rw [← Int.natCast_mul, ← Nat.pow_succ] at MT
      clear hp
      obtain ⟨p, hp⟩ : ∃ p, n ^ j = p := ⟨_, rfl⟩
      rw [hp] at MT ⊢
      clear hp
      go_wp2_with fail
      refine (HOF.out _).mono ?_
      rintro e w1 ⟨rfl, hb1⟩
      have HB1 := hide (HB.out.trans (hb1.mono HB.out.size))
      clear hb1
      go_wp2_with fail
      refine (MT.out _).mono ?_
      rintro e w2 ⟨rfl, hb2⟩
      have HB2 := hide (HB1.out.trans (hb2.mono HB1.out.size))
      clear hb2
      go_wp2_with fail
      go_roundg (gk - 1)
      case measure => have := HQ.out; omega
      case rel => exact ⟨j + 1, by go_num, by have := HQ.out; omega, rfl, HB2.out⟩
    · have hin : ¬ (j : Int) < (k : Int) := by omega
      have hjk2 : j = k := by omega
      subst hjk2
      go_wp2_with fail
      go_ret
      exact ⟨rfl, HB.out⟩

/-- The weight of k bad parts among n, and the weights that are not 0. -/
def trW (n x y k : Nat) : Nat := bin n k * (x ^ k * y ^ (n - k))
def trL (n x y : Nat) : Nat → List (Nat × Nat)
  | 0 => []
  | m + 1 => trL n x y m ++ (if trW n x y m = 0 then [] else [(m, trW n x y m)])
theorem trL_len (n x y : Nat) : ∀ m, (trL n x y m).length ≤ m
  | 0 => Nat.le_refl _
  | m + 1 => by
    have := trL_len n x y m
    rw [trL, List.length_append]
    split <;> simp <;> omega
theorem trL_mem {n x y : Nat} : ∀ {m : Nat} {p : Nat × Nat}, p ∈ trL n x y m → p.1 < m ∧ p.2 = trW n x y p.1 ∧ p.2 ≠ 0
  | 0, p, h => by simp [trL] at h
  | m + 1, p, h => by
    rw [trL, List.mem_append] at h
    rcases h with h | h
    · obtain ⟨h1, h2, h3⟩ := trL_mem h
      exact ⟨by omega, h2, h3⟩
    · split at h
      · simp at h
      · obtain rfl := List.mem_singleton.1 h
        exact ⟨by simp, rfl, by assumption⟩
/-- Cells of weighted values. -/
def wtl : List (Nat × Nat) → List Value
  | [] => []
  | p :: L => .int .i64 (p.1 : Int) :: .string ⟨(T (p.2 : Int)).toArray⟩ :: wtl L
theorem wtl_len : ∀ L, (wtl L).length = L.length * 2
  | [] => rfl
  | p :: L => by rw [wtl, List.length_cons, List.length_cons, wtl_len L, List.length_cons]; omega
theorem wtl_snoc (p : Nat × Nat) : ∀ L, wtl L ++ [.int .i64 (p.1 : Int), .string ⟨(T (p.2 : Int)).toArray⟩] = wtl (L ++ [p])
  | [] => rfl
  | q :: L => by
    show _ :: _ :: (wtl L ++ _) = _ :: _ :: wtl (L ++ [p])
    rw [wtl_snoc p L]
theorem wtl_at : ∀ {L : List (Nat × Nat)} {j : Nat} {p : Nat × Nat}, L[j]? = some p → (wtl L)[j * 2]? = some (.int .i64 (p.1 : Int)) ∧ (wtl L)[j * 2 + 1]? = some (.string ⟨(T (p.2 : Int)).toArray⟩)
  | [], j, p, h => by simp at h
  | q :: L, 0, p, h => by obtain rfl : q = p := by simpa using h
                          exact ⟨rfl, rfl⟩
  | q :: L, j + 1, p, h => by
    rw [show (j + 1) * 2 = j * 2 + 2 by omega]
    exact wtl_at (L := L) (by simpa using h)
theorem info_wt : (Tryz.prog.info? 65).map (fun i => (i.zero, i.size, i.bytes)) = some (some (.agg #[.int .i64 0, .string ⟨#[]⟩]), 2, 24) := by kernel_rfl
/-- A slice reads as these weighted values. -/
def WtL (w : World) (v : Value) (L : List (Nat × Nat)) : Prop :=
  ∃ (A : Option Addr) (c : Nat), v = .slice A L.length c ∧ ∀ j p, L[j]? = some p → ∃ g, A = some ⟨g, 0, none⟩ ∧ w.cell? ⟨g, j * 2, none⟩ = some (.int .i64 (p.1 : Int)) ∧ w.cell? ⟨g, j * 2 + 1, none⟩ = some (.string ⟨(T (p.2 : Int)).toArray⟩)
theorem WtL.below {w w' : World} {v : Value} {L : List (Nat × Nat)} (h : WtL w v L) (hb : Below w.heap.size w w') : WtL w' v L := by
  obtain ⟨A, c, hv, h⟩ := h
  refine ⟨A, c, hv, fun j p hj => ?_⟩
  obtain ⟨g, hA, h1, h2⟩ := h j p hj
  exact ⟨g, hA, (bcell hb _ _ (block_lt_of_cell h1)).trans h1, (bcell hb _ _ (block_lt_of_cell h2)).trans h2⟩
theorem WtL.own {w : World} {base : Nat} {v : Value} {L : List (Nat × Nat)} (h : w.ownsRow base 65 2 v L.length (wtl L)) : WtL w v L := by
  rcases h.2 with ⟨rfl, h0⟩ | ⟨g, cap, cur, rfl, hb, hgg, hn, hcap, hsz, htake⟩
  · refine ⟨none, 0, by rw [h0], fun j p hj => ?_⟩
    have := (List.getElem?_eq_some_iff.1 hj).1
    omega
  · refine ⟨_, cap, rfl, fun j p hj => ⟨g, rfl, ?_⟩⟩
    have hlt := (List.getElem?_eq_some_iff.1 hj).1
    obtain ⟨h1, h2⟩ := wtl_at hj
    exact ⟨(h.cellAt (j * 2) (by omega)).trans h1, (h.cellAt (j * 2 + 1) (by omega)).trans h2⟩
theorem trW_le {n x y k : Nat} (hn : n ≤ 12) (hx : x ≤ 10) (hy : y ≤ 10) (hk : k ≤ n) : x ^ k ≤ 10 ^ 12 ∧ y ^ (n - k) ≤ 10 ^ 12 ∧ x ^ k * y ^ (n - k) ≤ 10 ^ 24 ∧ bin n k ≤ 4096 := by
  have h1 : x ^ k ≤ 10 ^ 12 := Nat.le_trans (Nat.pow_le_pow_left hx k) (Nat.pow_le_pow_right (by omega) (by omega))
  have h2 : y ^ (n - k) ≤ 10 ^ 12 := Nat.le_trans (Nat.pow_le_pow_left hy _) (Nat.pow_le_pow_right (by omega) (by omega))
  have h3 := Nat.mul_le_mul h1 h2
  have h4 := bin_le_pow n k
  have h5 : 2 ^ n ≤ 2 ^ 12 := Nat.pow_le_pow_right (by omega) hn
  exact ⟨h1, h2, by omega, by omega⟩

set_option maxRecDepth 100000 in
set_option maxHeartbeats 8000000 in
theorem rtrials_any (w : World) (n x y : Nat) (hn : n ≤ 12) (hx : x ≤ 10) (hy : y ≤ 10) :
    Calls Tryz.prog 32 #[.int .i64 (n : Int), .int .i64 (x : Int), .int .i64 ((x + y : Nat) : Int)] w fun e w' => ∃ v, e = .returned v ∧ WtL w' v (trL n x y (n + 1)) ∧ Below w.heap.size w w' := by
  have hwd : IntKind.i64.wrap (((x + y : Nat) : Int) - (x : Int)) = (y : Int) := (IntWalk.i64_in _ (by omega)).trans (by omega)
  obtain ⟨i0, hi, hz0, hz1, hz2⟩ := info_parts info_wt
  obtain ⟨d, hd⟩ : ∃ d, x + y = d := ⟨_, rfl⟩
  rw [hd] at hwd ⊢
  clear hd
  go_enter Tryz.func32, Tryz.ntmps32
  go_wp2_with fail
  go_loopg [7, 8] (n + 1) (fun z ov iv wr => ∃ j : Nat, iv = .int .i64 (j : Int) ∧ z + j = n + 1 ∧ wr.ownsRow w.heap.size 65 2 ov (trL n x y j).length (wtl (trL n x y j)) ∧ Below w.heap.size w wr)
  case atStart => exact ⟨0, rfl, rfl, World.ownsRow_nil _ _ _ _, Below.refl _ _⟩
  case round =>
    obtain ⟨j, rfl, hq, hown, hb⟩ := hrel
    have HQ := hide hq
    have HB := hide hb
    have HOWN := hide hown
    have hjn : j ≤ n + 1 := by omega
    clear hq hb hown
    by_cases hlt : j < n + 1
    · have hin : (j : Int) ≤ (n : Int) := by omega
      obtain ⟨t1, t2, t3, t4⟩ := trW_le (n := n) (x := x) (y := y) (k := j) hn hx hy (by omega)
      have hws : IntKind.i64.wrap ((n : Int) - (j : Int)) = ((n - j : Nat) : Int) := (IntWalk.i64_in _ (by omega)).trans (by omega)
      have hw1 : IntKind.i64.wrap ((j : Int) + 1) = ((j + 1 : Nat) : Int) := (IntWalk.i64_in _ (by omega)).trans (by omega)
      have H1 := hide (fun W => rchosen_any W n j hn (by omega))
      have H2 := hide (fun W => rpower_any W x j hx (by omega))
      have H3 := hide (fun W => rpower_any W y (n - j) hy (by omega))
      have H4 := hide (fun W => rtimes_int W ⟨(T ((x ^ j : Nat) : Int)).toArray⟩ ⟨(T ((y ^ (n - j) : Nat) : Int)).toArray⟩ _ _ (rtwo_of (k := 13) (l := 13) (by omega) (by omega) (by omega) (by omega)))
      rw [← Int.natCast_mul] at H4
      have H5 := hide (fun W => rtimes_int W ⟨(T (bin n j : Int)).toArray⟩ ⟨(T ((x ^ j * y ^ (n - j) : Nat) : Int)).toArray⟩ _ _ (rtwo_of (k := 5) (l := 25) (by omega) (by omega) (by omega) (by omega)))
      rw [← Int.natCast_mul] at H5
      have hW : bin n j * (x ^ j * y ^ (n - j)) = trW n x y j := rfl
      rw [hW] at H5
      have hTR : trL n x y (j + 1) = trL n x y j ++ (if trW n x y j = 0 then [] else [(j, trW n x y j)]) := rfl
      have HTR := hide hTR
      have hlen := trL_len n x y j
      obtain ⟨L, hL⟩ : ∃ L, trL n x y j = L := ⟨_, rfl⟩
      rw [hL] at HOWN HTR hlen
      obtain ⟨W, hWW⟩ : ∃ W, trW n x y j = W := ⟨_, rfl⟩
      rw [hWW] at H5 HTR
      obtain ⟨b1, hb1⟩ : ∃ b, bin n j = b := ⟨_, rfl⟩
      rw [hb1] at H1 H5
      obtain ⟨b2, hb2⟩ : ∃ b, x ^ j = b := ⟨_, rfl⟩
      rw [hb2] at H2 H4 H5
      obtain ⟨b3, hb3⟩ : ∃ b, y ^ (n - j) = b := ⟨_, rfl⟩
      rw [hb3] at H3 H4 H5
      obtain ⟨b4, hb4⟩ : ∃ b, b2 * b3 = b := ⟨_, rfl⟩
      rw [hb4] at H4 H5
      obtain ⟨k, hk⟩ : ∃ b, n - j = b := ⟨_, rfl⟩
      rw [hk] at H3 hws
      clear t1 t2 t3 t4 hW hTR hL hWW hb1 hb2 hb3 hb4 hk
      go_wp2_with fail
      refine (H1.out _).mono ?_
      rintro e w1 ⟨rfl, h1⟩
      have B1 := hide ((Below.refl wr.heap.size wr).trans (h1.mono (Below.refl wr.heap.size wr).size))
      clear h1
      go_wp2_with fail
      refine (H2.out _).mono ?_
      rintro e w2 ⟨rfl, h1⟩
      have B2 := hide ((B1.out).trans (h1.mono (B1.out).size))
      clear h1
      go_wp2_with fail
      refine (H3.out _).mono ?_
      rintro e w3 ⟨rfl, h1⟩
      have B3 := hide ((B2.out).trans (h1.mono (B2.out).size))
      clear h1
      go_wp2_with fail
      refine (H4.out _).mono ?_
      rintro e w4 ⟨rfl, h1⟩
      have B4 := hide ((B3.out).trans (h1.mono (B3.out).size))
      clear h1
      go_wp2_with fail
      refine (H5.out _).mono ?_
      rintro e w5 ⟨rfl, h1⟩
      have B5 := hide ((B4.out).trans (h1.mono (B4.out).size))
      clear h1
      have HO5 := hide (owns_kept0 HOWN.out B5.out)
      have HB5 := hide (HB.out.trans (B5.out.mono HB.out.size))
      have hbs : w.heap.size ≤ w5.heap.size := HB5.out.size
      clear B1 B2 B3 B4 B5 H1 H2 H3 H4 H5
      by_cases hW0 : W = 0
      · subst hW0
        rw [if_pos rfl, List.append_nil] at HTR
        rw [show T ((0 : Nat) : Int) = [48] from T_zero]
        go_wp2_with fail
        go_roundg (gk - 1)
        case measure => have := HQ.out; omega
        case rel => exact ⟨j + 1, by go_num, by have := HQ.out; omega, by rw [HTR.out]; exact HO5.out, HB5.out⟩
      · rw [if_neg hW0] at HTR
        have hne : ¬ T (W : Int) = [48] := fun h => hW0 (by
          have h2 := T_inj (h.trans T_zero.symm)
          omega)
        obtain ⟨s, hs⟩ : ∃ s : ByteArray, ⟨(T (W : Int)).toArray⟩ = s := ⟨_, rfl⟩
        have hs2 : (s.toList == [48]) = false := by rw [← hs, ba_toList]; simpa using hne
        have hs3 : ¬ s.toList = [48] := by rw [← hs, ba_toList]; exact hne
        rw [hs]
        have HS := hide hs
        have hln : (L ++ [(j, W)]).length = L.length + 1 := by simp
        have HLN := hide hln
        have hown3 := HO5.out
        clear hne hW0 hs hln
        obtain ⟨m, hm⟩ : ∃ m, L.length = m := ⟨_, rfl⟩
        rw [hm] at hown3 hlen
        have HM := hide hm
        clear hm
        go_wp2_with (at_builtin; refine wpList_append_own _ rfl _ _ 60 rfl w.heap.size 65 i0 (.agg #[.int .i64 0, .string ⟨#[]⟩]) 2 24 Tryz.underlying60 hi hz0 hz1 hz2 rfl (by decide) _ _ _ rfl (hown3.alloc _) ⟨w5.heap.size, 0, none⟩ 1 1 [.int .i64 (j : Int), .string s] rfl rfl ?he1 ?he2 ?he3 ?he4 ?he5 ?_)
        try (case he1 => (intro j u hj; match j, hj with | 0, hj => (simp at hj; subst hj; simp [Addr.add]) | 1, hj => (simp at hj; subst hj; simp [Addr.add])))
        try (case he2 => (intro u hu; simp at hu; rcases hu with rfl | rfl <;> rfl))
        try (case he3 => first | (unfold maxLen; omega) | (simp [maxLen]))
        try (case he4 => (omega))
        try (case he5 => first | (simp; omega) | omega | simp)
        intro v6 w6 ho6 hg6 _
        have hb6 : Below w.heap.size w w6 := (HB5.out.alloc hbs _).grown hg6 (by simp; omega) (fun k e => (hown3.lt k e).1)
        have HO6 : Hid (w6.ownsRow w.heap.size 65 2 v6 (trL n x y (j + 1)).length (wtl (trL n x y (j + 1)))) := hide (by
          rw [HTR.out, ← wtl_snoc, HLN.out, HM.out, HS.out]
          exact ho6)
        have HB6 := hide hb6
        clear hg6 hb6 ho6 hown3
        go_wp2_with fail
        go_roundg (gk - 1)
        case measure => have := HQ.out; omega
        case rel => exact ⟨j + 1, by go_num, by have := HQ.out; omega, HO6.out, HB6.out⟩
    · have hin : ¬ (j : Int) ≤ (n : Int) := by omega
      have hjn2 : j = n + 1 := by omega
      subst hjn2
      have HW := hide (WtL.own HOWN.out)
      go_wp2_with fail
      go_ret
      exact ⟨_, rfl, HW.out, HB.out⟩

def wsum (L : List (Nat × Nat)) : Nat := (L.map (·.2)).sum
theorem wsum_snoc (L : List (Nat × Nat)) (p : Nat × Nat) : wsum (L ++ [p]) = wsum L + p.2 := by simp [wsum]
theorem wsum_le {L : List (Nat × Nat)} {B : Nat} : (∀ p ∈ L, p.2 ≤ B) → wsum L ≤ L.length * B := by
  induction L with
  | nil => intro _; simp [wsum]
  | cons q L ih =>
    intro h
    have h1 := ih (fun p hp => h p (List.mem_cons_of_mem _ hp))
    have h2 := h q List.mem_cons_self
    have h3 : wsum (q :: L) = q.2 + wsum L := by simp [wsum]
    rw [h3, List.length_cons, Nat.add_mul]; omega
set_option maxRecDepth 100000 in
set_option maxHeartbeats 4000000 in
theorem whole26_any (w : World) (v : Value) (L : List (Nat × Nat)) (hv : WtL w v L) (hB : ∀ p ∈ L, p.2 ≤ 10 ^ 30) (hl : L.length ≤ 100) :
    Calls Tryz.prog 85 #[v] w fun e w' => e = .returned (.string ⟨(T (wsum L : Int)).toArray⟩) ∧ Below w.heap.size w w' := by
  obtain ⟨A, c, rfl, hc⟩ := hv
  have HC := hide hc
  have HBB := hide hB
  clear hc hB
  go_enter Tryz.func85, Tryz.ntmps85
  go_wp2_with fail
  go_loopg [3, 4] L.length (fun z ov iv wr => ∃ j : Nat, iv = .int .i64 (j : Int) ∧ z + j = L.length ∧ ov = .string ⟨(T (wsum (L.take j) : Int)).toArray⟩ ∧ Below w.heap.size w wr)
  case atStart => exact ⟨0, rfl, rfl, by rw [List.take_zero]; show _ = Value.string ⟨(T 0).toArray⟩; rw [T_zero], Below.refl _ _⟩
  case round =>
    obtain ⟨j, rfl, hq, rfl, hb⟩ := hrel
    have HQ := hide hq
    have HB := hide hb
    have hjk : j ≤ L.length := by omega
    clear hq hb
    by_cases hlt : j < L.length
    · have hin : (j : Int) < (L.length : Int) := by omega
      have h0 : (0 : Int) ≤ (j : Int) := by omega
      obtain ⟨p, hp⟩ : ∃ p, L[j]? = some p := ⟨_, List.getElem?_eq_getElem hlt⟩
      obtain ⟨g, rfl, c1, c2⟩ := HC.out j p hp
      have d2 := (bcell HB.out _ _ (block_lt_of_cell c2)).trans c2
      have hw1 : IntKind.i64.wrap ((j : Int) + 1) = ((j + 1 : Nat) : Int) := (IntWalk.i64_in _ (by omega)).trans (by omega)
      have hpB := HBB.out p (List.mem_of_getElem? hp)
      have hsB := wsum_le (L := L.take j) (B := 10 ^ 30) (fun q hq => HBB.out q (List.mem_of_mem_take hq))
      have hlen : (L.take j).length ≤ 100 := by rw [List.length_take]; omega
      have hsB2 : wsum (L.take j) ≤ 100 * 10 ^ 30 := Nat.le_trans hsB (Nat.mul_le_mul_right _ hlen)
      have HS := hide (show wsum (L.take (j + 1)) = wsum (L.take j) + p.2 by rw [List.take_add_one, hp]; exact wsum_snoc _ _)
      have MP := hide (fun W => rplus_any W ⟨(T (wsum (L.take j) : Int)).toArray⟩ ⟨(T (p.2 : Int)).toArray⟩ _ _ (rtwo_of (k := 34) (l := 34) (by omega) (by omega) (by omega) (by omega)))
      rw [← Int.natCast_add] at MP
      obtain ⟨s1, hs1⟩ : ∃ b, wsum (L.take j) = b := ⟨_, rfl⟩
      rw [hs1] at MP HS ⊢
      obtain ⟨s2, hs2⟩ : ∃ b, p.2 = b := ⟨_, rfl⟩
      rw [hs2] at MP HS d2
      clear hpB hsB hsB2 hlen hs1 hs2 c1 c2 hp
      go_wp2_with fail
      refine (MP.out _).mono ?_
      rintro e w1 ⟨rfl, hb1⟩
      have HB1 := hide (HB.out.trans (hb1.mono HB.out.size))
      clear hb1
      go_wp2_with fail
      go_roundg (gk - 1)
      case measure => have := HQ.out; omega
      case rel => exact ⟨j + 1, by go_num, by have := HQ.out; omega, by rw [HS.out, Int.natCast_add], HB1.out⟩
    · have hin : ¬ (j : Int) < (L.length : Int) := by omega
      have hjk2 : j = L.length := by omega
      subst hjk2
      have hT : wsum (L.take L.length) = wsum L := by rw [List.take_length]
      rw [hT]
      go_wp2_with fail
      go_ret
      exact ⟨rfl, HB.out⟩

set_option maxRecDepth 100000 in
set_option maxHeartbeats 4000000 in
theorem chance26_any (w : World) (v : Value) (L : List (Nat × Nat)) (j : Nat) (p : Nat × Nat) (hv : WtL w v L) (hB : ∀ p ∈ L, p.2 ≤ 10 ^ 30) (hl : L.length ≤ 100) (hp : L[j]? = some p) (hs0 : wsum L ≠ 0) :
    Calls Tryz.prog 36 #[v, .int .i64 (j : Int)] w fun e w' => e = .returned (.string ⟨(RT (Rat.divInt (p.2 : Int) (wsum L : Int))).toArray⟩) ∧ Below w.heap.size w w' := by
  have HV := hide hv
  obtain ⟨A, c, rfl, hc⟩ := hv
  have hlt := (List.getElem?_eq_some_iff.1 hp).1
  have hpB := hB p (List.mem_of_getElem? hp)
  have hsB := wsum_le hB
  have hsB2 : wsum L ≤ 100 * 10 ^ 30 := Nat.le_trans hsB (Nat.mul_le_mul_right _ hl)
  have HW := hide (fun (W : World) (h : WtL W (.slice A L.length c) L) => whole26_any W _ L h hB hl)
  have hR := rtwo_of (x := (p.2 : Int)) (y := (wsum L : Int)) (k := 34) (l := 34) (by omega) (by omega) (by omega) (by omega)
  have HL := hide (fun W => rlowest_any W ⟨(T (p.2 : Int)).toArray⟩ ⟨(T (wsum L : Int)).toArray⟩ _ _ hR (by omega) (Nat.le_trans (T_size_pow (z := (p.2 : Int)) (k := 34) rfl (by omega) (by omega)) (by omega)) (Nat.le_trans (T_size_pow (z := (wsum L : Int)) (k := 34) rfl (by omega) (by omega)) (by omega)))
  obtain ⟨g, rfl, c1, c2⟩ := hc j p hp
  have hin : (j : Int) < (L.length : Int) := by omega
  have h0 : (0 : Int) ≤ (j : Int) := by omega
  obtain ⟨N, hN⟩ : ∃ N, L.length = N := ⟨_, rfl⟩
  rw [hN] at HV HW hin ⊢
  obtain ⟨s1, hs1⟩ : ∃ b, wsum L = b := ⟨_, rfl⟩
  rw [hs1] at HL HW ⊢
  obtain ⟨s2, hs2⟩ : ∃ b, p.2 = b := ⟨_, rfl⟩
  rw [hs2] at HL c2 ⊢
  have HB := hide (Below.refl w.heap.size w)
  have SK : ∀ w', Below w.heap.size w w' → Below w.heap.size w w' ∧ w'.cell? ⟨g, j * 2 + 1, none⟩ = some (.string ⟨(T (s2 : Int)).toArray⟩) := fun w' h => ⟨h, (bcell h _ _ (block_lt_of_cell c2)).trans c2⟩
  have SV : ∀ {R : Prop} {W : World}, Below w.heap.size w W ∧ R → WtL W (.slice (some ⟨g, 0, none⟩) N c) L := fun h => HV.out.below h.1
  clear hc hp hs0 hlt hpB hsB hsB2 hR c1 hB hl hN hs1 hs2
  go_enter Tryz.func36, Tryz.ntmps36
  go_upto_region 1 with (fail)
  go_region_held3 (fun w' => Below w.heap.size w w' ∧ w'.cell? ⟨g, j * 2 + 1, none⟩ = some (.string ⟨(T (s2 : Int)).toArray⟩)) (first | exact SK _ (Below.refl _ _).drew | exact SK _ (Below.refl _ _) | exact SK _ (bel_next (by assumption) (by assumption) (Nat.le_refl _)))
    (first
      | (go_at_call 85; refine (HW.out _ (SV (by assumption))).mono ?_; rintro e wx ⟨rfl, hbW⟩)
      | (go_at_call 66; refine (HL.out _).mono ?_; rintro e wx ⟨rfl, hbW⟩))
  obtain ⟨hbx, _⟩ : Below w.heap.size w _ ∧ _ := by assumption
  have HX := hide hbx
  clear hbx
  go_wp2_with fail
  go_ret
  exact ⟨rfl, HX.out⟩
end Go.Proofs.YtaccdkbofhlbkaaGreatDoor
