/- torsor: mapped, the closures of Add and Scale. -/
import Derived.Test.YtdkilkliccljeaaGreatDoorTnum
import Derived.Test.YtdkilkliccljeaaGreatDoorMade
import Derived.Deep.OwnRows
namespace Go.Proofs.YtdkilkliccljeaaGreatDoor
open Go.RowKit MLab

abbrev six0 : Array Value := #[.string ⟨#[]⟩, .string ⟨#[]⟩, .string ⟨#[]⟩, .string ⟨#[]⟩, .string ⟨#[]⟩, .string ⟨#[]⟩]

set_option maxRecDepth 100000 in
set_option maxHeartbeats 4000000 in
theorem mapped_any (w : World) (F : FuncId) (g1 g2 : Nat) (r : Nat → ByteArray) (hen : ∀ args w, (callFunc F args).run Tryz.prog w = .ok (.enter F args) w)
    (hf : ∀ (i : Nat) (W : World), i < 6 → Below w.heap.size w W → Calls Tryz.prog F #[.int .i64 (i : Int), .pointer (some ⟨g1, 0, none⟩), .pointer (some ⟨g2, 0, none⟩)] W fun e W' => e = .returned (.tuple #[.string (r i), .int .i64 0]) ∧ Below W.heap.size W W') :
    Calls Tryz.prog 75 #[.func (.func F) #[] #[.pointer (some ⟨g1, 0, none⟩), .pointer (some ⟨g2, 0, none⟩)]] w fun e w' => e = .returned (.tuple #[.agg #[.string (r 0), .string (r 1), .string (r 2), .string (r 3), .string (r 4), .string (r 5)], .int .i64 0]) ∧ Below w.heap.size w w' := by
  have HF := hide hf
  clear hf
  go_enter Tryz.func75, Tryz.ntmps75
  go_upto_region 2 with (fail)
  have hb0 : Below w.heap.size w ((w.alloc (.cells six0 25)).alloc (.cells six0 87)) := allocs_below w [_, _]
  have hk0 : Blk ((w.alloc (.cells six0 25)).alloc (.cells six0 87)) w.heap.size 25 six0 := (Blk.new w _ _).alloc _
  have hr0 : ((w.alloc (.cells six0 25)).alloc (.cells six0 87)).rowIs (w.heap.size + 1) 87 6 (fun _ => .string ⟨#[]⟩) := by
    have h := World.rowIs_alloc (w.alloc (.cells six0 25)) six0 87 (fun _ => .string ⟨#[]⟩) (by
      intro i hi
      match i, hi with
      | 0, _ => rfl
      | 1, _ => rfl
      | 2, _ => rfl
      | 3, _ => rfl
      | 4, _ => rfl
      | 5, _ => rfl)
    simpa using h
  generalize ((w.alloc (.cells six0 25)).alloc (.cells six0 87)) = w0 at *
  have HB0 := hide hb0
  have HK0 := hide hk0
  have HR0 := hide hr0
  clear hb0 hk0 hr0
  go_wp2_with fail
  go_loopg [8] 6 (fun q iv wr => ∃ j : Nat, iv = .int .i64 (j : Int) ∧ q + j = 6 ∧ wr.rowIs (w.heap.size + 1) 87 6 (fun p => if p < j then .string (r p) else .string ⟨#[]⟩) ∧ Blk wr w.heap.size 25 six0 ∧ Below w.heap.size w wr)
  case atStart => exact ⟨0, rfl, rfl, HR0.out.congr (fun p _ => by simp), HK0.out, HB0.out⟩
  case round =>
    obtain ⟨j, rfl, hq, hr, hk, hb⟩ := hrel
    have hj : j ≤ 6 := by omega
    have HQ := hide hq
    have HR := hide hr
    have HK := hide hk
    have HB := hide hb
    clear hq hr hk hb
    by_cases hlt : j < 6
    · have hji : (j : Int) < 6 := by omega
      go_wp2_with fail
      refine (HF.out j _ hlt HB.out).mono ?_
      rintro e w1 ⟨rfl, hb1⟩
      have hr1 := HR.out.of_block (hb1.block _ HR.out.lt)
      have hk1 := Blk.below HK.out hb1 (Blk.lt HK.out)
      have c0 := hr1.cell hlt
      have f0 := hr1.frozen j
      rw [if_neg (by omega)] at c0
      have HR1 := hide hr1
      have HK1 := hide hk1
      have HB1 := hide (HB.out.trans (hb1.mono HB.out.size))
      clear hr1 hk1 hb1
      go_wp2_with fail
      go_roundg (gk - 1)
      case measure => have := HQ.out; omega
      case rel =>
        refine ⟨j + 1, by go_num, by have := HQ.out; omega, (HR1.out.set j (.string (r j))).congr (fun p hp => ?_), Blk.far HK1.out (by simp) _, HB1.out.setCell (p := ⟨w.heap.size + 1, j, none⟩) (by simp) _⟩
        by_cases e1 : p = j
        · simp [e1]
        · by_cases e2 : p < j
          · simp [e1, e2, show p < j + 1 by omega]
          · simp [e1, e2, show ¬ p < j + 1 by omega]
    · have hji : ¬ (j : Int) < 6 := by omega
      have hj6 : j = 6 := by omega
      subst hj6
      have c0 := HR.out.cell (show 0 < 6 by omega)
      have c1 := HR.out.cell (show 1 < 6 by omega)
      have c2 := HR.out.cell (show 2 < 6 by omega)
      have c3 := HR.out.cell (show 3 < 6 by omega)
      have c4 := HR.out.cell (show 4 < 6 by omega)
      have c5 := HR.out.cell (show 5 < 6 by omega)
      simp only [if_pos (show 0 < 6 by omega), if_pos (show 1 < 6 by omega), if_pos (show 2 < 6 by omega), if_pos (show 3 < 6 by omega), if_pos (show 4 < 6 by omega), if_pos (show 5 < 6 by omega)] at c0 c1 c2 c3 c4 c5
      go_wp2_with fail
      refine (tmade_any _ (r 0) (r 1) (r 2) (r 3) (r 4) (r 5)).mono ?_
      rintro e w1 ⟨rfl, hb1⟩
      have hk1 := Blk.below HK.out hb1 (Blk.lt HK.out)
      have d0 : w1.cell? ⟨w.heap.size, 0, none⟩ = some (.string ⟨#[]⟩) := (Blk.cell hk1 0).trans rfl
      have d1 : w1.cell? ⟨w.heap.size, 1, none⟩ = some (.string ⟨#[]⟩) := (Blk.cell hk1 1).trans rfl
      have d2 : w1.cell? ⟨w.heap.size, 2, none⟩ = some (.string ⟨#[]⟩) := (Blk.cell hk1 2).trans rfl
      have d3 : w1.cell? ⟨w.heap.size, 3, none⟩ = some (.string ⟨#[]⟩) := (Blk.cell hk1 3).trans rfl
      have d4 : w1.cell? ⟨w.heap.size, 4, none⟩ = some (.string ⟨#[]⟩) := (Blk.cell hk1 4).trans rfl
      have d5 : w1.cell? ⟨w.heap.size, 5, none⟩ = some (.string ⟨#[]⟩) := (Blk.cell hk1 5).trans rfl
      have f0 := Blk.frozen hk1 0
      have f1 := Blk.frozen hk1 1
      have f2 := Blk.frozen hk1 2
      have f3 := Blk.frozen hk1 3
      have f4 := Blk.frozen hk1 4
      have f5 := Blk.frozen hk1 5
      have HB1 := hide (HB.out.trans (hb1.mono HB.out.size))
      clear hk1 hb1 c0 c1 c2 c3 c4 c5
      go_wp2_with fail
      exact bodyPost_ret (v := .tuple #[.agg #[.string (r 0), .string (r 1), .string (r 2), .string (r 3), .string (r 4), .string (r 5)], .int .i64 0]) (by simp [results, Tryz.results75, go_sem, d0, d1, d2, d3, d4, d5]) rfl ⟨rfl, ((((((HB1.out.setCell (p := ⟨w.heap.size, 0, none⟩) (Nat.le_refl _) _).setCell (p := ⟨w.heap.size, 1, none⟩) (Nat.le_refl _) _).setCell (p := ⟨w.heap.size, 2, none⟩) (Nat.le_refl _) _).setCell (p := ⟨w.heap.size, 3, none⟩) (Nat.le_refl _) _).setCell (p := ⟨w.heap.size, 4, none⟩) (Nat.le_refl _) _).setCell (p := ⟨w.heap.size, 5, none⟩) (Nat.le_refl _) _)⟩

/-- The sum of two right texts, as a round of mapped asks it. -/
def Bnd (p q : Rat) : Prop := Fit p ∧ Fit q ∧ (p.num * q.den).natAbs < Big ∧ (q.num * p.den).natAbs < Big ∧ (p.num * q.den + q.num * p.den).natAbs < Big ∧ ((p.den : Int) * q.den).natAbs < Big
def BndM (p q : Rat) : Prop := Fit p ∧ Fit q ∧ (p.num * q.num).natAbs < Big ∧ ((p.den : Int) * q.den).natAbs < Big
theorem bnd_of {p q : Rat} {m : Nat} (hm : m + m + 1 ≤ 1023) (hp : Sz m m p) (hq : Sz m m q) : Bnd p q :=
  ⟨hp.fit (by omega) (by omega), hq.fit (by omega) (by omega), big_of_pow (cross_lt hp hq) (by omega), big_of_pow (cross_lt hq hp) (by omega), big_of_pow (sum_lt (m := m + m) hp hq (by omega) (by omega)) (by omega), big_of_le (dens_le hp hq) (by omega)⟩
theorem bndM_of {p q : Rat} {m : Nat} (hm : m + m + 1 ≤ 1023) (hp : Sz m m p) (hq : Sz m m q) : BndM p q :=
  ⟨hp.fit (by omega) (by omega), hq.fit (by omega) (by omega), big_of_pow (nums_lt hp hq) (by omega), big_of_le (dens_le hp hq) (by omega)⟩
theorem rt_str (q : Rat) : (⟨(RT q).toArray⟩ : ByteArray).data.toList = RT q := rfl

set_option maxRecDepth 100000 in
set_option maxHeartbeats 2000000 in
/-- torsor.Add's closure. -/
theorem tadd1_any (w : World) (i g1 g2 : Nat) (a b : ByteArray) (p q : Rat) (hi : i < 6) (h1 : w.cell? ⟨g1, i, none⟩ = some (.string a)) (h2 : w.cell? ⟨g2, i, none⟩ = some (.string b)) (ha : a.data.toList = RT p) (hb : b.data.toList = RT q) (hbd : Bnd p q) (hs : Std w) :
    Calls Tryz.prog 76 #[.int .i64 (i : Int), .pointer (some ⟨g1, 0, none⟩), .pointer (some ⟨g2, 0, none⟩)] w fun e w' => e = .returned (.tuple #[.string ⟨(RT (p + q)).toArray⟩, .int .i64 0]) ∧ Below w.heap.size w w' := by
  have hii : (i : Int) < 6 := by omega
  obtain ⟨b1, b2, b3, b4, b5, b6⟩ := hbd
  have HX := hide (radd_any w.drew a b p q ha hb b1 b2 b3 b4 b5 b6 (hs.below (Below.refl _ _).drew (Nat.le_refl _)))
  have SK : ∀ w', Below w.heap.size w w' → Below w.heap.size w w' ∧ w'.cell? ⟨g1, i, none⟩ = some (.string a) ∧ w'.cell? ⟨g2, i, none⟩ = some (.string b) := fun w' h => ⟨h, (bcell h _ _ (block_lt_of_cell h1)).trans h1, (bcell h _ _ (block_lt_of_cell h2)).trans h2⟩
  clear b1 b2 b3 b4 b5 b6 ha hb hs
  go_enter Tryz.func76, Tryz.ntmps76
  go_upto_region 1 with (fail)
  go_region_held3 (fun w' => Below w.heap.size w w' ∧ w'.cell? ⟨g1, i, none⟩ = some (.string a) ∧ w'.cell? ⟨g2, i, none⟩ = some (.string b)) (first | exact SK _ (Below.refl _ _).drew | exact SK _ (Below.refl _ _) | exact SK _ (bel_next (by assumption) (by assumption) (Nat.le_refl _)))
    (first
      | (go_at_call 49; refine HX.out.mono ?_; rintro e wx ⟨hr, hbW⟩; rw [RetRat] at hr; subst hr))
  go_wp2_with fail
  go_ret2
  exact ⟨rfl, And.left (by assumption)⟩

set_option maxRecDepth 100000 in
set_option maxHeartbeats 2000000 in
/-- torsor.Scale's closure. -/
theorem tscale1_any (w : World) (i g1 g2 : Nat) (a b : ByteArray) (p q : Rat) (hi : i < 6) (h1 : w.cell? ⟨g1, 0, none⟩ = some (.string a)) (h2 : w.cell? ⟨g2, i, none⟩ = some (.string b)) (ha : a.data.toList = RT p) (hb : b.data.toList = RT q) (hbd : BndM p q) (hs : Std w) :
    Calls Tryz.prog 78 #[.int .i64 (i : Int), .pointer (some ⟨g1, 0, none⟩), .pointer (some ⟨g2, 0, none⟩)] w fun e w' => e = .returned (.tuple #[.string ⟨(RT (p * q)).toArray⟩, .int .i64 0]) ∧ Below w.heap.size w w' := by
  have hii : (i : Int) < 6 := by omega
  obtain ⟨b1, b2, b3, b4⟩ := hbd
  have HX := hide (rmulq_any w.drew a b p q ha hb b1 b2 b3 b4 (hs.below (Below.refl _ _).drew (Nat.le_refl _)))
  have SK : ∀ w', Below w.heap.size w w' → Below w.heap.size w w' ∧ w'.cell? ⟨g1, 0, none⟩ = some (.string a) ∧ w'.cell? ⟨g2, i, none⟩ = some (.string b) := fun w' h => ⟨h, (bcell h _ _ (block_lt_of_cell h1)).trans h1, (bcell h _ _ (block_lt_of_cell h2)).trans h2⟩
  clear b1 b2 b3 b4 ha hb hs
  go_enter Tryz.func78, Tryz.ntmps78
  go_upto_region 1 with (fail)
  go_region_held3 (fun w' => Below w.heap.size w w' ∧ w'.cell? ⟨g1, 0, none⟩ = some (.string a) ∧ w'.cell? ⟨g2, i, none⟩ = some (.string b)) (first | exact SK _ (Below.refl _ _).drew | exact SK _ (Below.refl _ _) | exact SK _ (bel_next (by assumption) (by assumption) (Nat.le_refl _)))
    (first
      | (go_at_call 79; refine HX.out.mono ?_; rintro e wx ⟨hr, hbW⟩; rw [RetRat] at hr; subst hr))
  go_wp2_with fail
  go_ret2
  exact ⟨rfl, And.left (by assumption)⟩
end Go.Proofs.YtdkilkliccljeaaGreatDoor
