/- torsor.About. -/
import Derived.Test.YtdkilkliccljeaaGreatDoorTapply
import Derived.Test.YtdkilkliccljeaaGreatDoorNeg
namespace Go.Proofs.YtdkilkliccljeaaGreatDoor
open Go.RowKit MLab

theorem chkRs_one (l : List UInt8) : chkRs [l] = chkR l := by
  rw [chkRs]
  split
  · rename_i h; rw [h]; rfl
  · rfl
theorem one_canon (w : World) (g : Nat) (hg : g = w.heap.size) (a : ByteArray) (t : TypeId) (ha : a.data.toList.length < 4000000000) (hs : Std w) :
    Calls Tryz.prog 52 #[.slice (some ⟨g, 0, none⟩) 1 1] (w.alloc (.cells #[.string a] t)) fun e w' => e = .returned (.int .i64 (chkR a.data.toList)) ∧ Below w.heap.size w w' := by
  subst hg
  have hst : Strs (w.alloc (.cells #[.string a] t)) (.slice (some ⟨w.heap.size, 0, none⟩) 1 1) [a.data.toList] := by
    refine ⟨_, 1, rfl, fun _ => ⟨w.heap.size, 0, rfl, fun i l hi => ?_⟩⟩
    have hb := Blk.new w t #[.string a]
    match i, hi with
    | 0, hi => exact ⟨a, by rw [hb.cell]; rfl, by simpa using hi⟩
    | j + 1, hi => simp at hi
  have h := canonical_any _ _ _ hst (by simp) (by intro l hl; simp only [List.mem_cons, List.not_mem_nil, or_false] at hl; subst hl; exact ha) (hs.below (allocs_below w [_]) (Nat.le_refl _))
  rw [chkRs_one] at h
  exact h.mono fun e w' ⟨h1, h2⟩ => ⟨h1, (allocs_below w [_]).trans (h2.mono (allocs_below w [_]).size)⟩
/-- The six texts of the numbers of a torsor. -/
abbrev TV (q : Nat → Rat) : Array Value := #[.string ⟨(RT (q 0)).toArray⟩, .string ⟨(RT (q 1)).toArray⟩, .string ⟨(RT (q 2)).toArray⟩, .string ⟨(RT (q 3)).toArray⟩, .string ⟨(RT (q 4)).toArray⟩, .string ⟨(RT (q 5)).toArray⟩]
theorem b48 : (⟨#[48]⟩ : ByteArray) = ⟨(RT 0).toArray⟩ := by rw [RT_zeroT]

set_option maxRecDepth 100000 in
set_option maxHeartbeats 4000000 in
theorem tabout_given (w : World) (k x y z : Int) (a : ByteArray) (c : Int) (hc : gvn k x y z = c) (h0 : c ≠ 0) :
    Calls Tryz.prog 20 #[.int .i64 k, .agg #[.int .i64 x, .int .i64 y, .int .i64 z], .string a] w fun e w' => e = .returned (.tuple #[.agg six0, .int .i64 c]) ∧ Below w.heap.size w w' := by
  have hb0 := hide (allocs_below w [.cells #[.int .i64 x, .int .i64 y, .int .i64 z] 27, .cells six0 25])
  have K0 := hide (show Blk (allocs w [.cells #[.int .i64 x, .int .i64 y, .int .i64 z] 27, .cells six0 25]) (w.heap.size + 0) 27 #[.int .i64 x, .int .i64 y, .int .i64 z] from allocs_at w [.cells #[.int .i64 x, .int .i64 y, .int .i64 z] 27, .cells six0 25] 0 rfl)
  have K1 := hide (show Blk (allocs w [.cells #[.int .i64 x, .int .i64 y, .int .i64 z] 27, .cells six0 25]) (w.heap.size + 1) 25 six0 from allocs_at w [.cells #[.int .i64 x, .int .i64 y, .int .i64 z] 27, .cells six0 25] 1 rfl)
  have HC := hide hc
  clear hc
  go_enter Tryz.func20, Tryz.ntmps20
  go_wp2_with fail
  refine (given_any _ k x y z).mono ?_
  rw [HC.out]
  rintro e w1 ⟨rfl, hb1⟩
  have HB1 := hide (hb0.out.trans (Below.mono hb1 hb0.out.size))
  have rhz := Blk.below K1.out hb1 (Blk.lt K1.out)
  have rz0 : w1.cell? ⟨w.heap.size + 1, 0, none⟩ = some (.string ⟨#[]⟩) := (Blk.cell rhz 0).trans rfl
  have rf0 := Blk.frozen rhz 0
  have rz1 : w1.cell? ⟨w.heap.size + 1, 1, none⟩ = some (.string ⟨#[]⟩) := (Blk.cell rhz 1).trans rfl
  have rf1 := Blk.frozen rhz 1
  have rz2 : w1.cell? ⟨w.heap.size + 1, 2, none⟩ = some (.string ⟨#[]⟩) := (Blk.cell rhz 2).trans rfl
  have rf2 := Blk.frozen rhz 2
  have rz3 : w1.cell? ⟨w.heap.size + 1, 3, none⟩ = some (.string ⟨#[]⟩) := (Blk.cell rhz 3).trans rfl
  have rf3 := Blk.frozen rhz 3
  have rz4 : w1.cell? ⟨w.heap.size + 1, 4, none⟩ = some (.string ⟨#[]⟩) := (Blk.cell rhz 4).trans rfl
  have rf4 := Blk.frozen rhz 4
  have rz5 : w1.cell? ⟨w.heap.size + 1, 5, none⟩ = some (.string ⟨#[]⟩) := (Blk.cell rhz 5).trans rfl
  have rf5 := Blk.frozen rhz 5
  clear rhz hb1 K0 K1
  go_wp2_with fail
  exact bodyPost_ret (v := .tuple #[.agg six0, .int .i64 c]) (by simp [results, Tryz.results20, go_sem, rz0, rz1, rz2, rz3, rz4, rz5]) rfl ⟨rfl, ((((((HB1.out.setCell (p := ⟨w.heap.size + 1, 0, none⟩) (Nat.le_add_right _ _) _).setCell (p := ⟨w.heap.size + 1, 1, none⟩) (Nat.le_add_right _ _) _).setCell (p := ⟨w.heap.size + 1, 2, none⟩) (Nat.le_add_right _ _) _).setCell (p := ⟨w.heap.size + 1, 3, none⟩) (Nat.le_add_right _ _) _).setCell (p := ⟨w.heap.size + 1, 4, none⟩) (Nat.le_add_right _ _) _).setCell (p := ⟨w.heap.size + 1, 5, none⟩) (Nat.le_add_right _ _) _)⟩

set_option maxRecDepth 100000 in
set_option maxHeartbeats 4000000 in
theorem tabout_bad (w : World) (k x y z : Int) (a : ByteArray) (c : Int) (hk : gvn k x y z = 0) (hc : chkR a.data.toList = c) (h0 : c ≠ 0) (ha : a.data.toList.length < 4000000000) (hst : Std w) :
    Calls Tryz.prog 20 #[.int .i64 k, .agg #[.int .i64 x, .int .i64 y, .int .i64 z], .string a] w fun e w' => e = .returned (.tuple #[.agg six0, .int .i64 c]) ∧ Below w.heap.size w w' := by
  have hb0 := hide (allocs_below w [.cells #[.int .i64 x, .int .i64 y, .int .i64 z] 27, .cells six0 25])
  have K0 := hide (show Blk (allocs w [.cells #[.int .i64 x, .int .i64 y, .int .i64 z] 27, .cells six0 25]) (w.heap.size + 0) 27 #[.int .i64 x, .int .i64 y, .int .i64 z] from allocs_at w [.cells #[.int .i64 x, .int .i64 y, .int .i64 z] 27, .cells six0 25] 0 rfl)
  have K1 := hide (show Blk (allocs w [.cells #[.int .i64 x, .int .i64 y, .int .i64 z] 27, .cells six0 25]) (w.heap.size + 1) 25 six0 from allocs_at w [.cells #[.int .i64 x, .int .i64 y, .int .i64 z] 27, .cells six0 25] 1 rfl)
  have HC := hide hc
  have HK := hide hk
  have HAS := hide ha
  have HST := hide hst
  clear hc hk ha hst
  go_enter Tryz.func20, Tryz.ntmps20
  go_wp2_with fail
  refine (given_any _ k x y z).mono ?_
  rw [HK.out]
  rintro e w1 ⟨rfl, hb1⟩
  have HB1 := hide (hb0.out.trans (Below.mono hb1 hb0.out.size))
  have HL1 := hide hb1
  clear hb1
  go_wp2_with fail
  refine (one_canon _ _ rfl a _ HAS.out (HST.out.below HB1.out (Nat.le_refl _))).mono ?_
  rw [HC.out]
  rintro e w2 ⟨rfl, hb2⟩
  have HL2 := hide (HL1.out.trans (Below.mono hb2 HL1.out.size))
  have HB2 := hide (HB1.out.trans (Below.mono hb2 HB1.out.size))
  clear hb2
  have rhz := Blk.below K1.out HL2.out (Blk.lt K1.out)
  have rz0 : w2.cell? ⟨w.heap.size + 1, 0, none⟩ = some (.string ⟨#[]⟩) := (Blk.cell rhz 0).trans rfl
  have rf0 := Blk.frozen rhz 0
  have rz1 : w2.cell? ⟨w.heap.size + 1, 1, none⟩ = some (.string ⟨#[]⟩) := (Blk.cell rhz 1).trans rfl
  have rf1 := Blk.frozen rhz 1
  have rz2 : w2.cell? ⟨w.heap.size + 1, 2, none⟩ = some (.string ⟨#[]⟩) := (Blk.cell rhz 2).trans rfl
  have rf2 := Blk.frozen rhz 2
  have rz3 : w2.cell? ⟨w.heap.size + 1, 3, none⟩ = some (.string ⟨#[]⟩) := (Blk.cell rhz 3).trans rfl
  have rf3 := Blk.frozen rhz 3
  have rz4 : w2.cell? ⟨w.heap.size + 1, 4, none⟩ = some (.string ⟨#[]⟩) := (Blk.cell rhz 4).trans rfl
  have rf4 := Blk.frozen rhz 4
  have rz5 : w2.cell? ⟨w.heap.size + 1, 5, none⟩ = some (.string ⟨#[]⟩) := (Blk.cell rhz 5).trans rfl
  have rf5 := Blk.frozen rhz 5
  clear rhz K0 K1
  go_wp2_with fail
  exact bodyPost_ret (v := .tuple #[.agg six0, .int .i64 c]) (by simp [results, Tryz.results20, go_sem, rz0, rz1, rz2, rz3, rz4, rz5]) rfl ⟨rfl, ((((((HB2.out.setCell (p := ⟨w.heap.size + 1, 0, none⟩) (Nat.le_add_right _ _) _).setCell (p := ⟨w.heap.size + 1, 1, none⟩) (Nat.le_add_right _ _) _).setCell (p := ⟨w.heap.size + 1, 2, none⟩) (Nat.le_add_right _ _) _).setCell (p := ⟨w.heap.size + 1, 3, none⟩) (Nat.le_add_right _ _) _).setCell (p := ⟨w.heap.size + 1, 4, none⟩) (Nat.le_add_right _ _) _).setCell (p := ⟨w.heap.size + 1, 5, none⟩) (Nat.le_add_right _ _) _)⟩

set_option maxRecDepth 100000 in
set_option maxHeartbeats 8000000 in
theorem tabout0 (w : World) (x y z : Int) (t : Rat) {m : Nat} (hm : m ≤ 160) (hq : Sz m m t) (hw : Co x ∧ Co y ∧ Co z) (hst : Std w) :
    Calls Tryz.prog 20 #[.int .i64 0, .agg #[.int .i64 x, .int .i64 y, .int .i64 z], .string ⟨(RT t).toArray⟩] w fun e w' => e = .returned (.tuple #[.agg (TV (abt 0 x y z t)), .int .i64 0]) ∧ Below w.heap.size w w' := by
  have hfit := hq.fit (by omega) (by omega)
  have ha : (⟨(RT t).toArray⟩ : ByteArray).data.toList.length < 4000000000 := by have := RT_len hfit; show (RT t).length < 4000000000; omega
  have HC := hide (show chkR (⟨(RT t).toArray⟩ : ByteArray).data.toList = 0 from chkR_RT hfit)
  have HK := hide (show gvn 0 x y z = 0 by rw [gvn, if_neg (by omega), if_pos hw])
  have HAS := hide ha
  have HST := hide hst
  have HCO := hide hw
  have HQ := hide hq
  clear ha hst hw hq hfit
  have hb0 := hide (allocs_below w [.cells #[.int .i64 x, .int .i64 y, .int .i64 z] 27, .cells six0 25])
  have K0 := hide (show Blk (allocs w [.cells #[.int .i64 x, .int .i64 y, .int .i64 z] 27, .cells six0 25]) (w.heap.size + 0) 27 #[.int .i64 x, .int .i64 y, .int .i64 z] from allocs_at w [.cells #[.int .i64 x, .int .i64 y, .int .i64 z] 27, .cells six0 25] 0 rfl)
  have K1 := hide (show Blk (allocs w [.cells #[.int .i64 x, .int .i64 y, .int .i64 z] 27, .cells six0 25]) (w.heap.size + 1) 25 six0 from allocs_at w [.cells #[.int .i64 x, .int .i64 y, .int .i64 z] 27, .cells six0 25] 1 rfl)
  go_enter Tryz.func20, Tryz.ntmps20
  go_wp2_with fail
  refine (given_any _ 0 x y z).mono ?_
  rw [HK.out]
  rintro e w1 ⟨rfl, hb1⟩
  have HB1 := hide (hb0.out.trans (Below.mono hb1 hb0.out.size))
  have HL1 := hide hb1
  clear hb1
  go_wp2_with fail
  refine (one_canon _ _ rfl ⟨(RT t).toArray⟩ _ HAS.out (HST.out.below HB1.out (Nat.le_refl _))).mono ?_
  rw [HC.out]
  rintro e w2 ⟨rfl, hb2⟩
  have HL2 := hide (HL1.out.trans (Below.mono hb2 HL1.out.size))
  have HB2 := hide (HB1.out.trans (Below.mono hb2 HB1.out.size))
  clear hb2
  go_wp2_with fail
  refine (tzero_any _).mono ?_
  rintro e w3 ⟨rfl, hb3⟩
  have HL3 := hide (HL2.out.trans (hb3.mono HL2.out.size))
  have HB3 := hide (HB2.out.trans (hb3.mono HB2.out.size))
  clear hb3
  have hsz3 : w.heap.size + 1 < w3.heap.size := Blk.lt (Blk.below K1.out HL3.out (Blk.lt K1.out))
  go_upto_region 10 with (fail)
  have hA0 := ((Blk.below K0.out HL3.out (Blk.lt K0.out)).alloc (.cells #[.string ⟨#[48]⟩, .string ⟨#[48]⟩, .string ⟨#[48]⟩, .string ⟨(RT t).toArray⟩, .string ⟨#[48]⟩, .string ⟨#[48]⟩] 25)).alloc (.cells #[.string ⟨#[48]⟩, .string ⟨#[48]⟩, .string ⟨#[48]⟩, .string ⟨(RT t).toArray⟩, .string ⟨#[48]⟩, .string ⟨#[48]⟩] 25)
  have hA1 := ((Blk.below K1.out HL3.out (Blk.lt K1.out)).alloc (.cells #[.string ⟨#[48]⟩, .string ⟨#[48]⟩, .string ⟨#[48]⟩, .string ⟨(RT t).toArray⟩, .string ⟨#[48]⟩, .string ⟨#[48]⟩] 25)).alloc (.cells #[.string ⟨#[48]⟩, .string ⟨#[48]⟩, .string ⟨#[48]⟩, .string ⟨(RT t).toArray⟩, .string ⟨#[48]⟩, .string ⟨#[48]⟩] 25)
  have hA2 : Blk ((w3.alloc (.cells #[.string ⟨#[48]⟩, .string ⟨#[48]⟩, .string ⟨#[48]⟩, .string ⟨(RT t).toArray⟩, .string ⟨#[48]⟩, .string ⟨#[48]⟩] 25)).alloc (.cells #[.string ⟨#[48]⟩, .string ⟨#[48]⟩, .string ⟨#[48]⟩, .string ⟨(RT t).toArray⟩, .string ⟨#[48]⟩, .string ⟨#[48]⟩] 25)) w3.heap.size 25 #[.string ⟨#[48]⟩, .string ⟨#[48]⟩, .string ⟨#[48]⟩, .string ⟨(RT t).toArray⟩, .string ⟨#[48]⟩, .string ⟨#[48]⟩] := (Blk.new w3 25 #[.string ⟨#[48]⟩, .string ⟨#[48]⟩, .string ⟨#[48]⟩, .string ⟨(RT t).toArray⟩, .string ⟨#[48]⟩, .string ⟨#[48]⟩]).alloc (.cells #[.string ⟨#[48]⟩, .string ⟨#[48]⟩, .string ⟨#[48]⟩, .string ⟨(RT t).toArray⟩, .string ⟨#[48]⟩, .string ⟨#[48]⟩] 25)
  have hB4 := (HB3.out.alloc HB3.out.size (.cells #[.string ⟨#[48]⟩, .string ⟨#[48]⟩, .string ⟨#[48]⟩, .string ⟨(RT t).toArray⟩, .string ⟨#[48]⟩, .string ⟨#[48]⟩] 25)).alloc (by have := HB3.out.size; simp; omega) (.cells #[.string ⟨#[48]⟩, .string ⟨#[48]⟩, .string ⟨#[48]⟩, .string ⟨(RT t).toArray⟩, .string ⟨#[48]⟩, .string ⟨#[48]⟩] 25)
  have hr4 : ((w3.alloc (.cells #[.string ⟨#[48]⟩, .string ⟨#[48]⟩, .string ⟨#[48]⟩, .string ⟨(RT t).toArray⟩, .string ⟨#[48]⟩, .string ⟨#[48]⟩] 25)).alloc (.cells #[.string ⟨#[48]⟩, .string ⟨#[48]⟩, .string ⟨#[48]⟩, .string ⟨(RT t).toArray⟩, .string ⟨#[48]⟩, .string ⟨#[48]⟩] 25)).rowIs (w3.heap.size + 1) 25 6 (fun p => if p = 3 + 0 then .string ⟨(RT t).toArray⟩ else .string ⟨#[48]⟩) := by
    have h := World.rowIs_alloc (w3.alloc (.cells #[.string ⟨#[48]⟩, .string ⟨#[48]⟩, .string ⟨#[48]⟩, .string ⟨(RT t).toArray⟩, .string ⟨#[48]⟩, .string ⟨#[48]⟩] 25)) #[.string ⟨#[48]⟩, .string ⟨#[48]⟩, .string ⟨#[48]⟩, .string ⟨(RT t).toArray⟩, .string ⟨#[48]⟩, .string ⟨#[48]⟩] 25 (fun p => if p = 3 + 0 then .string ⟨(RT t).toArray⟩ else .string ⟨#[48]⟩) (by
      intro i hi
      match i, hi with
      | 0, _ => rfl
      | 1, _ => rfl
      | 2, _ => rfl
      | 3, _ => rfl
      | 4, _ => rfl
      | 5, _ => rfl)
    simpa using h
  have hz4 : ((w3.alloc (.cells #[.string ⟨#[48]⟩, .string ⟨#[48]⟩, .string ⟨#[48]⟩, .string ⟨(RT t).toArray⟩, .string ⟨#[48]⟩, .string ⟨#[48]⟩] 25)).alloc (.cells #[.string ⟨#[48]⟩, .string ⟨#[48]⟩, .string ⟨#[48]⟩, .string ⟨(RT t).toArray⟩, .string ⟨#[48]⟩, .string ⟨#[48]⟩] 25)).heap.size = w3.heap.size + 2 := by simp
  generalize ((w3.alloc (.cells #[.string ⟨#[48]⟩, .string ⟨#[48]⟩, .string ⟨#[48]⟩, .string ⟨(RT t).toArray⟩, .string ⟨#[48]⟩, .string ⟨#[48]⟩] 25)).alloc (.cells #[.string ⟨#[48]⟩, .string ⟨#[48]⟩, .string ⟨#[48]⟩, .string ⟨(RT t).toArray⟩, .string ⟨#[48]⟩, .string ⟨#[48]⟩] 25)) = w4 at *
  have A0 := hide hA0
  have A1 := hide hA1
  have A2 := hide hA2
  have B4 := hide hB4
  have R4 := hide hr4
  have Z4 := hide hz4
  clear hA0 hA1 hA2 hB4 hr4 hz4
  go_wp2_with fail
  go_loopg [35] 3 (fun n iv wr => ∃ j : Nat, iv = .int .i64 (j : Int) ∧ n + j = 3 ∧ wr.rowIs (w3.heap.size + 1) 25 6 (fun p => if p < j then .string ⟨(RT (-(psum (frm p x y z) (wq 0 t) 6))).toArray⟩ else if p = 3 + 0 then .string ⟨(RT t).toArray⟩ else .string ⟨#[48]⟩) ∧ Below (w3.heap.size + 1) w4 wr)
  case atStart => exact ⟨0, rfl, rfl, R4.out.congr (fun p _ => by simp), Below.refl _ _⟩
  case round =>
    obtain ⟨j, rfl, hn, hr, hb⟩ := hrel
    have HN := hide hn
    have HR := hide hr
    have HB := hide hb
    have HBw := hide (B4.out.trans (hb.mono (by omega)))
    have hile : j ≤ 3 := by omega
    clear hn hr hb
    by_cases hlt : j < 3
    · have hii : (j : Int) < 3 := by omega
      have hi0 : (0 : Int) ≤ (j : Int) := by omega
      have hZ0 := Blk.below A0.out HB.out (by omega)
      have hZ2 := Blk.below A2.out HB.out (by omega)
      have t0 : wr.cell? ⟨w3.heap.size, 0, none⟩ = some (.string ⟨#[48]⟩) := (Blk.cell hZ2 0).trans rfl
      have t1 : wr.cell? ⟨w3.heap.size, 1, none⟩ = some (.string ⟨#[48]⟩) := (Blk.cell hZ2 1).trans rfl
      have t2 : wr.cell? ⟨w3.heap.size, 2, none⟩ = some (.string ⟨#[48]⟩) := (Blk.cell hZ2 2).trans rfl
      have t3 : wr.cell? ⟨w3.heap.size, 3, none⟩ = some (.string ⟨(RT t).toArray⟩) := (Blk.cell hZ2 3).trans rfl
      have t4 : wr.cell? ⟨w3.heap.size, 4, none⟩ = some (.string ⟨#[48]⟩) := (Blk.cell hZ2 4).trans rfl
      have t5 : wr.cell? ⟨w3.heap.size, 5, none⟩ = some (.string ⟨#[48]⟩) := (Blk.cell hZ2 5).trans rfl
      have p0 : wr.cell? ⟨w.heap.size + 0, 0, none⟩ = some (.int .i64 x) := (Blk.cell hZ0 0).trans rfl
      have p1 : wr.cell? ⟨w.heap.size + 0, 1, none⟩ = some (.int .i64 y) := (Blk.cell hZ0 1).trans rfl
      have p2 : wr.cell? ⟨w.heap.size + 0, 2, none⟩ = some (.int .i64 z) := (Blk.cell hZ0 2).trans rfl
      rw [Nat.add_zero] at p0 p1 p2
      clear hZ0 hZ2
      have SK : ∀ w', Below wr.heap.size wr w' → Below wr.heap.size wr w' ∧ w'.cell? ⟨w3.heap.size, 0, none⟩ = some (.string ⟨#[48]⟩) ∧ w'.cell? ⟨w3.heap.size, 1, none⟩ = some (.string ⟨#[48]⟩) ∧ w'.cell? ⟨w3.heap.size, 2, none⟩ = some (.string ⟨#[48]⟩) ∧ w'.cell? ⟨w3.heap.size, 3, none⟩ = some (.string ⟨(RT t).toArray⟩) ∧ w'.cell? ⟨w3.heap.size, 4, none⟩ = some (.string ⟨#[48]⟩) ∧ w'.cell? ⟨w3.heap.size, 5, none⟩ = some (.string ⟨#[48]⟩) ∧ w'.cell? ⟨w.heap.size, 0, none⟩ = some (.int .i64 x) ∧ w'.cell? ⟨w.heap.size, 1, none⟩ = some (.int .i64 y) ∧ w'.cell? ⟨w.heap.size, 2, none⟩ = some (.int .i64 z) := fun w' h => ⟨h, (bcell h _ _ (block_lt_of_cell t0)).trans t0, (bcell h _ _ (block_lt_of_cell t1)).trans t1, (bcell h _ _ (block_lt_of_cell t2)).trans t2, (bcell h _ _ (block_lt_of_cell t3)).trans t3, (bcell h _ _ (block_lt_of_cell t4)).trans t4, (bcell h _ _ (block_lt_of_cell t5)).trans t5, (bcell h _ _ (block_lt_of_cell p0)).trans p0, (bcell h _ _ (block_lt_of_cell p1)).trans p1, (bcell h _ _ (block_lt_of_cell p2)).trans p2⟩
      have HF := hide (fun w => tform_any w j hlt x y z HCO.out.1.cb HCO.out.2.1.cb HCO.out.2.2.cb)
      have HT : Hid (∀ W, Std W → Calls Tryz.prog 46 #[frmV j x y z, .agg #[.string ⟨#[48]⟩, .string ⟨#[48]⟩, .string ⟨#[48]⟩, .string ⟨(RT t).toArray⟩, .string ⟨#[48]⟩, .string ⟨#[48]⟩]] W fun e w' => e = .returned (.tuple #[.string ⟨(RT (psum (frm j x y z) (wq 0 t) 6)).toArray⟩, .int .i64 0]) ∧ Below W.heap.size W w') := hide (fun W hW => ttimes_any W (frm j x y z) ⟨#[48]⟩ ⟨#[48]⟩ ⟨#[48]⟩ ⟨(RT t).toArray⟩ ⟨#[48]⟩ ⟨#[48]⟩ (wq 0 t) hm (fun i _ => frm_cb j HCO.out.1.cb HCO.out.2.1.cb HCO.out.2.2.cb i) (fun i _ => wq_sz HQ.out i) ⟨RT_zeroT.symm, RT_zeroT.symm, RT_zeroT.symm, rfl, RT_zeroT.symm, RT_zeroT.symm⟩ hW)
      have HFT := hide ((psum_six (c := frm j x y z) (q := wq 0 t) (fun i _ => frm_cb j HCO.out.1.cb HCO.out.2.1.cb HCO.out.2.2.cb i) (fun i _ => wq_sz HQ.out i) 6 (Nat.le_refl _)).fit (by omega) (by omega))
      go_upto_region 13 with (fail)
      go_region_held3 (fun w' => Below wr.heap.size wr w' ∧ w'.cell? ⟨w3.heap.size, 0, none⟩ = some (.string ⟨#[48]⟩) ∧ w'.cell? ⟨w3.heap.size, 1, none⟩ = some (.string ⟨#[48]⟩) ∧ w'.cell? ⟨w3.heap.size, 2, none⟩ = some (.string ⟨#[48]⟩) ∧ w'.cell? ⟨w3.heap.size, 3, none⟩ = some (.string ⟨(RT t).toArray⟩) ∧ w'.cell? ⟨w3.heap.size, 4, none⟩ = some (.string ⟨#[48]⟩) ∧ w'.cell? ⟨w3.heap.size, 5, none⟩ = some (.string ⟨#[48]⟩) ∧ w'.cell? ⟨w.heap.size, 0, none⟩ = some (.int .i64 x) ∧ w'.cell? ⟨w.heap.size, 1, none⟩ = some (.int .i64 y) ∧ w'.cell? ⟨w.heap.size, 2, none⟩ = some (.int .i64 z)) (first | exact SK _ (Below.refl _ _).drew | exact SK _ (Below.refl _ _) | exact SK _ (bel_next (by assumption) (by assumption) (Nat.le_refl _)))
        (first
          | (go_at_call 47; refine (HF.out _).mono ?_; rintro e wx ⟨rfl, hbW⟩)
          | (go_at_call 48; refine (tnumbers_any _ ⟨#[48]⟩ ⟨#[48]⟩ ⟨#[48]⟩ ⟨(RT t).toArray⟩ ⟨#[48]⟩ ⟨#[48]⟩).mono ?_; rintro e wx ⟨rfl, hbW⟩)
          | (go_at_call 46; refine (HT.out _ (HST.out.below (HBw.out.trans (Below.mono (And.left (by assumption)) HBw.out.size)) (Nat.le_refl _))).mono ?_; rintro e wx ⟨rfl, hbW⟩))
      obtain ⟨hbx, _⟩ : _ ∧ _ := by assumption
      have HX := hide hbx
      clear hbx SK t0 t1 t2 t3 t4 t5 p0 p1 p2
      go_wp2_with fail
      refine (rneg_any _ _ _ rfl HFT.out (HST.out.below (HBw.out.trans (Below.mono HX.out HBw.out.size)) (Nat.le_refl _))).mono ?_
      rintro e w7 ⟨rfl, hb7⟩
      have HX7 := hide (HX.out.trans (hb7.mono HX.out.size))
      clear hb7
      have hr1 := HR.out.of_block (HX7.out.block _ HR.out.lt)
      have c0 := hr1.cell (show j < 6 by omega)
      have f0 := hr1.frozen j
      rw [if_neg (by omega), if_neg (by omega)] at c0
      have HR1 := hide hr1
      have HB7 := hide (HB.out.trans (HX7.out.mono (by have := HB.out.size; have := Z4.out; omega)))
      clear hr1
      go_wp2_with fail
      go_roundg (gk - 1)
      case measure => have := HN.out; omega
      case rel =>
        refine ⟨j + 1, by go_num, by have := HN.out; omega, (HR1.out.set j (.string ⟨(RT (-(psum (frm j x y z) (wq 0 t) 6))).toArray⟩)).congr (fun p hp => ?_), HB7.out.setCell (p := ⟨w3.heap.size + 1, j, none⟩) (Nat.le_refl _) _⟩
        by_cases e1 : p = j
        · simp [e1]
        · by_cases e2 : p < j
          · simp [e1, e2, show p < j + 1 by omega]
          · simp [e1, e2, show ¬ p < j + 1 by omega]
    · have hii : ¬ (j : Int) < 3 := by omega
      have hj6 : j = 3 := by omega
      subst hj6
      have c0 := HR.out.cell (show 0 < 6 by omega)
      have c1 := HR.out.cell (show 1 < 6 by omega)
      have c2 := HR.out.cell (show 2 < 6 by omega)
      have c3 := HR.out.cell (show 3 < 6 by omega)
      have c4 := HR.out.cell (show 4 < 6 by omega)
      have c5 := HR.out.cell (show 5 < 6 by omega)
      rw [if_pos (by omega)] at c0
      rw [if_pos (by omega)] at c1
      rw [if_pos (by omega)] at c2
      rw [if_neg (by omega), if_pos (by omega)] at c3
      rw [if_neg (by omega), if_neg (by omega)] at c4
      rw [if_neg (by omega), if_neg (by omega)] at c5
      have hZ2 := Blk.below A1.out HB.out (by omega)
      have rhz := hZ2
      have rz0 : wr.cell? ⟨w.heap.size + 1, 0, none⟩ = some (.string ⟨#[]⟩) := (Blk.cell rhz 0).trans rfl
      have rf0 : wr.frozen? ⟨w.heap.size + 1, 0, none⟩ = false := Blk.frozen rhz 0
      have rz1 : wr.cell? ⟨w.heap.size + 1, 1, none⟩ = some (.string ⟨#[]⟩) := (Blk.cell rhz 1).trans rfl
      have rf1 : wr.frozen? ⟨w.heap.size + 1, 1, none⟩ = false := Blk.frozen rhz 1
      have rz2 : wr.cell? ⟨w.heap.size + 1, 2, none⟩ = some (.string ⟨#[]⟩) := (Blk.cell rhz 2).trans rfl
      have rf2 : wr.frozen? ⟨w.heap.size + 1, 2, none⟩ = false := Blk.frozen rhz 2
      have rz3 : wr.cell? ⟨w.heap.size + 1, 3, none⟩ = some (.string ⟨#[]⟩) := (Blk.cell rhz 3).trans rfl
      have rf3 : wr.frozen? ⟨w.heap.size + 1, 3, none⟩ = false := Blk.frozen rhz 3
      have rz4 : wr.cell? ⟨w.heap.size + 1, 4, none⟩ = some (.string ⟨#[]⟩) := (Blk.cell rhz 4).trans rfl
      have rf4 : wr.frozen? ⟨w.heap.size + 1, 4, none⟩ = false := Blk.frozen rhz 4
      have rz5 : wr.cell? ⟨w.heap.size + 1, 5, none⟩ = some (.string ⟨#[]⟩) := (Blk.cell rhz 5).trans rfl
      have rf5 : wr.frozen? ⟨w.heap.size + 1, 5, none⟩ = false := Blk.frozen rhz 5
      clear hZ2 rhz
      go_wp2_with fail
      exact bodyPost_ret (v := .tuple #[.agg (TV (abt 0 x y z t)), .int .i64 0]) (by simp [results, Tryz.results20, go_sem, abt, wq, RT_zeroT, rz0, rz1, rz2, rz3, rz4, rz5]) rfl ⟨rfl, ((((((HBw.out.setCell (p := ⟨w.heap.size + 1, 0, none⟩) (Nat.le_add_right _ _) _).setCell (p := ⟨w.heap.size + 1, 1, none⟩) (Nat.le_add_right _ _) _).setCell (p := ⟨w.heap.size + 1, 2, none⟩) (Nat.le_add_right _ _) _).setCell (p := ⟨w.heap.size + 1, 3, none⟩) (Nat.le_add_right _ _) _).setCell (p := ⟨w.heap.size + 1, 4, none⟩) (Nat.le_add_right _ _) _).setCell (p := ⟨w.heap.size + 1, 5, none⟩) (Nat.le_add_right _ _) _)⟩

set_option maxRecDepth 100000 in
set_option maxHeartbeats 8000000 in
theorem tabout1 (w : World) (x y z : Int) (t : Rat) {m : Nat} (hm : m ≤ 160) (hq : Sz m m t) (hw : Co x ∧ Co y ∧ Co z) (hst : Std w) :
    Calls Tryz.prog 20 #[.int .i64 1, .agg #[.int .i64 x, .int .i64 y, .int .i64 z], .string ⟨(RT t).toArray⟩] w fun e w' => e = .returned (.tuple #[.agg (TV (abt 1 x y z t)), .int .i64 0]) ∧ Below w.heap.size w w' := by
  have hfit := hq.fit (by omega) (by omega)
  have ha : (⟨(RT t).toArray⟩ : ByteArray).data.toList.length < 4000000000 := by have := RT_len hfit; show (RT t).length < 4000000000; omega
  have HC := hide (show chkR (⟨(RT t).toArray⟩ : ByteArray).data.toList = 0 from chkR_RT hfit)
  have HK := hide (show gvn 1 x y z = 0 by rw [gvn, if_neg (by omega), if_pos hw])
  have HAS := hide ha
  have HST := hide hst
  have HCO := hide hw
  have HQ := hide hq
  clear ha hst hw hq hfit
  have hb0 := hide (allocs_below w [.cells #[.int .i64 x, .int .i64 y, .int .i64 z] 27, .cells six0 25])
  have K0 := hide (show Blk (allocs w [.cells #[.int .i64 x, .int .i64 y, .int .i64 z] 27, .cells six0 25]) (w.heap.size + 0) 27 #[.int .i64 x, .int .i64 y, .int .i64 z] from allocs_at w [.cells #[.int .i64 x, .int .i64 y, .int .i64 z] 27, .cells six0 25] 0 rfl)
  have K1 := hide (show Blk (allocs w [.cells #[.int .i64 x, .int .i64 y, .int .i64 z] 27, .cells six0 25]) (w.heap.size + 1) 25 six0 from allocs_at w [.cells #[.int .i64 x, .int .i64 y, .int .i64 z] 27, .cells six0 25] 1 rfl)
  go_enter Tryz.func20, Tryz.ntmps20
  go_wp2_with fail
  refine (given_any _ 1 x y z).mono ?_
  rw [HK.out]
  rintro e w1 ⟨rfl, hb1⟩
  have HB1 := hide (hb0.out.trans (Below.mono hb1 hb0.out.size))
  have HL1 := hide hb1
  clear hb1
  go_wp2_with fail
  refine (one_canon _ _ rfl ⟨(RT t).toArray⟩ _ HAS.out (HST.out.below HB1.out (Nat.le_refl _))).mono ?_
  rw [HC.out]
  rintro e w2 ⟨rfl, hb2⟩
  have HL2 := hide (HL1.out.trans (Below.mono hb2 HL1.out.size))
  have HB2 := hide (HB1.out.trans (Below.mono hb2 HB1.out.size))
  clear hb2
  go_wp2_with fail
  refine (tzero_any _).mono ?_
  rintro e w3 ⟨rfl, hb3⟩
  have HL3 := hide (HL2.out.trans (hb3.mono HL2.out.size))
  have HB3 := hide (HB2.out.trans (hb3.mono HB2.out.size))
  clear hb3
  have hsz3 : w.heap.size + 1 < w3.heap.size := Blk.lt (Blk.below K1.out HL3.out (Blk.lt K1.out))
  go_upto_region 10 with (fail)
  have hA0 := ((Blk.below K0.out HL3.out (Blk.lt K0.out)).alloc (.cells #[.string ⟨#[48]⟩, .string ⟨#[48]⟩, .string ⟨#[48]⟩, .string ⟨#[48]⟩, .string ⟨(RT t).toArray⟩, .string ⟨#[48]⟩] 25)).alloc (.cells #[.string ⟨#[48]⟩, .string ⟨#[48]⟩, .string ⟨#[48]⟩, .string ⟨#[48]⟩, .string ⟨(RT t).toArray⟩, .string ⟨#[48]⟩] 25)
  have hA1 := ((Blk.below K1.out HL3.out (Blk.lt K1.out)).alloc (.cells #[.string ⟨#[48]⟩, .string ⟨#[48]⟩, .string ⟨#[48]⟩, .string ⟨#[48]⟩, .string ⟨(RT t).toArray⟩, .string ⟨#[48]⟩] 25)).alloc (.cells #[.string ⟨#[48]⟩, .string ⟨#[48]⟩, .string ⟨#[48]⟩, .string ⟨#[48]⟩, .string ⟨(RT t).toArray⟩, .string ⟨#[48]⟩] 25)
  have hA2 : Blk ((w3.alloc (.cells #[.string ⟨#[48]⟩, .string ⟨#[48]⟩, .string ⟨#[48]⟩, .string ⟨#[48]⟩, .string ⟨(RT t).toArray⟩, .string ⟨#[48]⟩] 25)).alloc (.cells #[.string ⟨#[48]⟩, .string ⟨#[48]⟩, .string ⟨#[48]⟩, .string ⟨#[48]⟩, .string ⟨(RT t).toArray⟩, .string ⟨#[48]⟩] 25)) w3.heap.size 25 #[.string ⟨#[48]⟩, .string ⟨#[48]⟩, .string ⟨#[48]⟩, .string ⟨#[48]⟩, .string ⟨(RT t).toArray⟩, .string ⟨#[48]⟩] := (Blk.new w3 25 #[.string ⟨#[48]⟩, .string ⟨#[48]⟩, .string ⟨#[48]⟩, .string ⟨#[48]⟩, .string ⟨(RT t).toArray⟩, .string ⟨#[48]⟩]).alloc (.cells #[.string ⟨#[48]⟩, .string ⟨#[48]⟩, .string ⟨#[48]⟩, .string ⟨#[48]⟩, .string ⟨(RT t).toArray⟩, .string ⟨#[48]⟩] 25)
  have hB4 := (HB3.out.alloc HB3.out.size (.cells #[.string ⟨#[48]⟩, .string ⟨#[48]⟩, .string ⟨#[48]⟩, .string ⟨#[48]⟩, .string ⟨(RT t).toArray⟩, .string ⟨#[48]⟩] 25)).alloc (by have := HB3.out.size; simp; omega) (.cells #[.string ⟨#[48]⟩, .string ⟨#[48]⟩, .string ⟨#[48]⟩, .string ⟨#[48]⟩, .string ⟨(RT t).toArray⟩, .string ⟨#[48]⟩] 25)
  have hr4 : ((w3.alloc (.cells #[.string ⟨#[48]⟩, .string ⟨#[48]⟩, .string ⟨#[48]⟩, .string ⟨#[48]⟩, .string ⟨(RT t).toArray⟩, .string ⟨#[48]⟩] 25)).alloc (.cells #[.string ⟨#[48]⟩, .string ⟨#[48]⟩, .string ⟨#[48]⟩, .string ⟨#[48]⟩, .string ⟨(RT t).toArray⟩, .string ⟨#[48]⟩] 25)).rowIs (w3.heap.size + 1) 25 6 (fun p => if p = 3 + 1 then .string ⟨(RT t).toArray⟩ else .string ⟨#[48]⟩) := by
    have h := World.rowIs_alloc (w3.alloc (.cells #[.string ⟨#[48]⟩, .string ⟨#[48]⟩, .string ⟨#[48]⟩, .string ⟨#[48]⟩, .string ⟨(RT t).toArray⟩, .string ⟨#[48]⟩] 25)) #[.string ⟨#[48]⟩, .string ⟨#[48]⟩, .string ⟨#[48]⟩, .string ⟨#[48]⟩, .string ⟨(RT t).toArray⟩, .string ⟨#[48]⟩] 25 (fun p => if p = 3 + 1 then .string ⟨(RT t).toArray⟩ else .string ⟨#[48]⟩) (by
      intro i hi
      match i, hi with
      | 0, _ => rfl
      | 1, _ => rfl
      | 2, _ => rfl
      | 3, _ => rfl
      | 4, _ => rfl
      | 5, _ => rfl)
    simpa using h
  have hz4 : ((w3.alloc (.cells #[.string ⟨#[48]⟩, .string ⟨#[48]⟩, .string ⟨#[48]⟩, .string ⟨#[48]⟩, .string ⟨(RT t).toArray⟩, .string ⟨#[48]⟩] 25)).alloc (.cells #[.string ⟨#[48]⟩, .string ⟨#[48]⟩, .string ⟨#[48]⟩, .string ⟨#[48]⟩, .string ⟨(RT t).toArray⟩, .string ⟨#[48]⟩] 25)).heap.size = w3.heap.size + 2 := by simp
  generalize ((w3.alloc (.cells #[.string ⟨#[48]⟩, .string ⟨#[48]⟩, .string ⟨#[48]⟩, .string ⟨#[48]⟩, .string ⟨(RT t).toArray⟩, .string ⟨#[48]⟩] 25)).alloc (.cells #[.string ⟨#[48]⟩, .string ⟨#[48]⟩, .string ⟨#[48]⟩, .string ⟨#[48]⟩, .string ⟨(RT t).toArray⟩, .string ⟨#[48]⟩] 25)) = w4 at *
  have A0 := hide hA0
  have A1 := hide hA1
  have A2 := hide hA2
  have B4 := hide hB4
  have R4 := hide hr4
  have Z4 := hide hz4
  clear hA0 hA1 hA2 hB4 hr4 hz4
  go_wp2_with fail
  go_loopg [35] 3 (fun n iv wr => ∃ j : Nat, iv = .int .i64 (j : Int) ∧ n + j = 3 ∧ wr.rowIs (w3.heap.size + 1) 25 6 (fun p => if p < j then .string ⟨(RT (-(psum (frm p x y z) (wq 1 t) 6))).toArray⟩ else if p = 3 + 1 then .string ⟨(RT t).toArray⟩ else .string ⟨#[48]⟩) ∧ Below (w3.heap.size + 1) w4 wr)
  case atStart => exact ⟨0, rfl, rfl, R4.out.congr (fun p _ => by simp), Below.refl _ _⟩
  case round =>
    obtain ⟨j, rfl, hn, hr, hb⟩ := hrel
    have HN := hide hn
    have HR := hide hr
    have HB := hide hb
    have HBw := hide (B4.out.trans (hb.mono (by omega)))
    have hile : j ≤ 3 := by omega
    clear hn hr hb
    by_cases hlt : j < 3
    · have hii : (j : Int) < 3 := by omega
      have hi0 : (0 : Int) ≤ (j : Int) := by omega
      have hZ0 := Blk.below A0.out HB.out (by omega)
      have hZ2 := Blk.below A2.out HB.out (by omega)
      have t0 : wr.cell? ⟨w3.heap.size, 0, none⟩ = some (.string ⟨#[48]⟩) := (Blk.cell hZ2 0).trans rfl
      have t1 : wr.cell? ⟨w3.heap.size, 1, none⟩ = some (.string ⟨#[48]⟩) := (Blk.cell hZ2 1).trans rfl
      have t2 : wr.cell? ⟨w3.heap.size, 2, none⟩ = some (.string ⟨#[48]⟩) := (Blk.cell hZ2 2).trans rfl
      have t3 : wr.cell? ⟨w3.heap.size, 3, none⟩ = some (.string ⟨#[48]⟩) := (Blk.cell hZ2 3).trans rfl
      have t4 : wr.cell? ⟨w3.heap.size, 4, none⟩ = some (.string ⟨(RT t).toArray⟩) := (Blk.cell hZ2 4).trans rfl
      have t5 : wr.cell? ⟨w3.heap.size, 5, none⟩ = some (.string ⟨#[48]⟩) := (Blk.cell hZ2 5).trans rfl
      have p0 : wr.cell? ⟨w.heap.size + 0, 0, none⟩ = some (.int .i64 x) := (Blk.cell hZ0 0).trans rfl
      have p1 : wr.cell? ⟨w.heap.size + 0, 1, none⟩ = some (.int .i64 y) := (Blk.cell hZ0 1).trans rfl
      have p2 : wr.cell? ⟨w.heap.size + 0, 2, none⟩ = some (.int .i64 z) := (Blk.cell hZ0 2).trans rfl
      rw [Nat.add_zero] at p0 p1 p2
      clear hZ0 hZ2
      have SK : ∀ w', Below wr.heap.size wr w' → Below wr.heap.size wr w' ∧ w'.cell? ⟨w3.heap.size, 0, none⟩ = some (.string ⟨#[48]⟩) ∧ w'.cell? ⟨w3.heap.size, 1, none⟩ = some (.string ⟨#[48]⟩) ∧ w'.cell? ⟨w3.heap.size, 2, none⟩ = some (.string ⟨#[48]⟩) ∧ w'.cell? ⟨w3.heap.size, 3, none⟩ = some (.string ⟨#[48]⟩) ∧ w'.cell? ⟨w3.heap.size, 4, none⟩ = some (.string ⟨(RT t).toArray⟩) ∧ w'.cell? ⟨w3.heap.size, 5, none⟩ = some (.string ⟨#[48]⟩) ∧ w'.cell? ⟨w.heap.size, 0, none⟩ = some (.int .i64 x) ∧ w'.cell? ⟨w.heap.size, 1, none⟩ = some (.int .i64 y) ∧ w'.cell? ⟨w.heap.size, 2, none⟩ = some (.int .i64 z) := fun w' h => ⟨h, (bcell h _ _ (block_lt_of_cell t0)).trans t0, (bcell h _ _ (block_lt_of_cell t1)).trans t1, (bcell h _ _ (block_lt_of_cell t2)).trans t2, (bcell h _ _ (block_lt_of_cell t3)).trans t3, (bcell h _ _ (block_lt_of_cell t4)).trans t4, (bcell h _ _ (block_lt_of_cell t5)).trans t5, (bcell h _ _ (block_lt_of_cell p0)).trans p0, (bcell h _ _ (block_lt_of_cell p1)).trans p1, (bcell h _ _ (block_lt_of_cell p2)).trans p2⟩
      have HF := hide (fun w => tform_any w j hlt x y z HCO.out.1.cb HCO.out.2.1.cb HCO.out.2.2.cb)
      have HT : Hid (∀ W, Std W → Calls Tryz.prog 46 #[frmV j x y z, .agg #[.string ⟨#[48]⟩, .string ⟨#[48]⟩, .string ⟨#[48]⟩, .string ⟨#[48]⟩, .string ⟨(RT t).toArray⟩, .string ⟨#[48]⟩]] W fun e w' => e = .returned (.tuple #[.string ⟨(RT (psum (frm j x y z) (wq 1 t) 6)).toArray⟩, .int .i64 0]) ∧ Below W.heap.size W w') := hide (fun W hW => ttimes_any W (frm j x y z) ⟨#[48]⟩ ⟨#[48]⟩ ⟨#[48]⟩ ⟨#[48]⟩ ⟨(RT t).toArray⟩ ⟨#[48]⟩ (wq 1 t) hm (fun i _ => frm_cb j HCO.out.1.cb HCO.out.2.1.cb HCO.out.2.2.cb i) (fun i _ => wq_sz HQ.out i) ⟨RT_zeroT.symm, RT_zeroT.symm, RT_zeroT.symm, RT_zeroT.symm, rfl, RT_zeroT.symm⟩ hW)
      have HFT := hide ((psum_six (c := frm j x y z) (q := wq 1 t) (fun i _ => frm_cb j HCO.out.1.cb HCO.out.2.1.cb HCO.out.2.2.cb i) (fun i _ => wq_sz HQ.out i) 6 (Nat.le_refl _)).fit (by omega) (by omega))
      go_upto_region 13 with (fail)
      go_region_held3 (fun w' => Below wr.heap.size wr w' ∧ w'.cell? ⟨w3.heap.size, 0, none⟩ = some (.string ⟨#[48]⟩) ∧ w'.cell? ⟨w3.heap.size, 1, none⟩ = some (.string ⟨#[48]⟩) ∧ w'.cell? ⟨w3.heap.size, 2, none⟩ = some (.string ⟨#[48]⟩) ∧ w'.cell? ⟨w3.heap.size, 3, none⟩ = some (.string ⟨#[48]⟩) ∧ w'.cell? ⟨w3.heap.size, 4, none⟩ = some (.string ⟨(RT t).toArray⟩) ∧ w'.cell? ⟨w3.heap.size, 5, none⟩ = some (.string ⟨#[48]⟩) ∧ w'.cell? ⟨w.heap.size, 0, none⟩ = some (.int .i64 x) ∧ w'.cell? ⟨w.heap.size, 1, none⟩ = some (.int .i64 y) ∧ w'.cell? ⟨w.heap.size, 2, none⟩ = some (.int .i64 z)) (first | exact SK _ (Below.refl _ _).drew | exact SK _ (Below.refl _ _) | exact SK _ (bel_next (by assumption) (by assumption) (Nat.le_refl _)))
        (first
          | (go_at_call 47; refine (HF.out _).mono ?_; rintro e wx ⟨rfl, hbW⟩)
          | (go_at_call 48; refine (tnumbers_any _ ⟨#[48]⟩ ⟨#[48]⟩ ⟨#[48]⟩ ⟨#[48]⟩ ⟨(RT t).toArray⟩ ⟨#[48]⟩).mono ?_; rintro e wx ⟨rfl, hbW⟩)
          | (go_at_call 46; refine (HT.out _ (HST.out.below (HBw.out.trans (Below.mono (And.left (by assumption)) HBw.out.size)) (Nat.le_refl _))).mono ?_; rintro e wx ⟨rfl, hbW⟩))
      obtain ⟨hbx, _⟩ : _ ∧ _ := by assumption
      have HX := hide hbx
      clear hbx SK t0 t1 t2 t3 t4 t5 p0 p1 p2
      go_wp2_with fail
      refine (rneg_any _ _ _ rfl HFT.out (HST.out.below (HBw.out.trans (Below.mono HX.out HBw.out.size)) (Nat.le_refl _))).mono ?_
      rintro e w7 ⟨rfl, hb7⟩
      have HX7 := hide (HX.out.trans (hb7.mono HX.out.size))
      clear hb7
      have hr1 := HR.out.of_block (HX7.out.block _ HR.out.lt)
      have c0 := hr1.cell (show j < 6 by omega)
      have f0 := hr1.frozen j
      rw [if_neg (by omega), if_neg (by omega)] at c0
      have HR1 := hide hr1
      have HB7 := hide (HB.out.trans (HX7.out.mono (by have := HB.out.size; have := Z4.out; omega)))
      clear hr1
      go_wp2_with fail
      go_roundg (gk - 1)
      case measure => have := HN.out; omega
      case rel =>
        refine ⟨j + 1, by go_num, by have := HN.out; omega, (HR1.out.set j (.string ⟨(RT (-(psum (frm j x y z) (wq 1 t) 6))).toArray⟩)).congr (fun p hp => ?_), HB7.out.setCell (p := ⟨w3.heap.size + 1, j, none⟩) (Nat.le_refl _) _⟩
        by_cases e1 : p = j
        · simp [e1]
        · by_cases e2 : p < j
          · simp [e1, e2, show p < j + 1 by omega]
          · simp [e1, e2, show ¬ p < j + 1 by omega]
    · have hii : ¬ (j : Int) < 3 := by omega
      have hj6 : j = 3 := by omega
      subst hj6
      have c0 := HR.out.cell (show 0 < 6 by omega)
      have c1 := HR.out.cell (show 1 < 6 by omega)
      have c2 := HR.out.cell (show 2 < 6 by omega)
      have c3 := HR.out.cell (show 3 < 6 by omega)
      have c4 := HR.out.cell (show 4 < 6 by omega)
      have c5 := HR.out.cell (show 5 < 6 by omega)
      rw [if_pos (by omega)] at c0
      rw [if_pos (by omega)] at c1
      rw [if_pos (by omega)] at c2
      rw [if_neg (by omega), if_neg (by omega)] at c3
      rw [if_neg (by omega), if_pos (by omega)] at c4
      rw [if_neg (by omega), if_neg (by omega)] at c5
      have hZ2 := Blk.below A1.out HB.out (by omega)
      have rhz := hZ2
      have rz0 : wr.cell? ⟨w.heap.size + 1, 0, none⟩ = some (.string ⟨#[]⟩) := (Blk.cell rhz 0).trans rfl
      have rf0 : wr.frozen? ⟨w.heap.size + 1, 0, none⟩ = false := Blk.frozen rhz 0
      have rz1 : wr.cell? ⟨w.heap.size + 1, 1, none⟩ = some (.string ⟨#[]⟩) := (Blk.cell rhz 1).trans rfl
      have rf1 : wr.frozen? ⟨w.heap.size + 1, 1, none⟩ = false := Blk.frozen rhz 1
      have rz2 : wr.cell? ⟨w.heap.size + 1, 2, none⟩ = some (.string ⟨#[]⟩) := (Blk.cell rhz 2).trans rfl
      have rf2 : wr.frozen? ⟨w.heap.size + 1, 2, none⟩ = false := Blk.frozen rhz 2
      have rz3 : wr.cell? ⟨w.heap.size + 1, 3, none⟩ = some (.string ⟨#[]⟩) := (Blk.cell rhz 3).trans rfl
      have rf3 : wr.frozen? ⟨w.heap.size + 1, 3, none⟩ = false := Blk.frozen rhz 3
      have rz4 : wr.cell? ⟨w.heap.size + 1, 4, none⟩ = some (.string ⟨#[]⟩) := (Blk.cell rhz 4).trans rfl
      have rf4 : wr.frozen? ⟨w.heap.size + 1, 4, none⟩ = false := Blk.frozen rhz 4
      have rz5 : wr.cell? ⟨w.heap.size + 1, 5, none⟩ = some (.string ⟨#[]⟩) := (Blk.cell rhz 5).trans rfl
      have rf5 : wr.frozen? ⟨w.heap.size + 1, 5, none⟩ = false := Blk.frozen rhz 5
      clear hZ2 rhz
      go_wp2_with fail
      exact bodyPost_ret (v := .tuple #[.agg (TV (abt 1 x y z t)), .int .i64 0]) (by simp [results, Tryz.results20, go_sem, abt, wq, RT_zeroT, rz0, rz1, rz2, rz3, rz4, rz5]) rfl ⟨rfl, ((((((HBw.out.setCell (p := ⟨w.heap.size + 1, 0, none⟩) (Nat.le_add_right _ _) _).setCell (p := ⟨w.heap.size + 1, 1, none⟩) (Nat.le_add_right _ _) _).setCell (p := ⟨w.heap.size + 1, 2, none⟩) (Nat.le_add_right _ _) _).setCell (p := ⟨w.heap.size + 1, 3, none⟩) (Nat.le_add_right _ _) _).setCell (p := ⟨w.heap.size + 1, 4, none⟩) (Nat.le_add_right _ _) _).setCell (p := ⟨w.heap.size + 1, 5, none⟩) (Nat.le_add_right _ _) _)⟩

set_option maxRecDepth 100000 in
set_option maxHeartbeats 8000000 in
theorem tabout2 (w : World) (x y z : Int) (t : Rat) {m : Nat} (hm : m ≤ 160) (hq : Sz m m t) (hw : Co x ∧ Co y ∧ Co z) (hst : Std w) :
    Calls Tryz.prog 20 #[.int .i64 2, .agg #[.int .i64 x, .int .i64 y, .int .i64 z], .string ⟨(RT t).toArray⟩] w fun e w' => e = .returned (.tuple #[.agg (TV (abt 2 x y z t)), .int .i64 0]) ∧ Below w.heap.size w w' := by
  have hfit := hq.fit (by omega) (by omega)
  have ha : (⟨(RT t).toArray⟩ : ByteArray).data.toList.length < 4000000000 := by have := RT_len hfit; show (RT t).length < 4000000000; omega
  have HC := hide (show chkR (⟨(RT t).toArray⟩ : ByteArray).data.toList = 0 from chkR_RT hfit)
  have HK := hide (show gvn 2 x y z = 0 by rw [gvn, if_neg (by omega), if_pos hw])
  have HAS := hide ha
  have HST := hide hst
  have HCO := hide hw
  have HQ := hide hq
  clear ha hst hw hq hfit
  have hb0 := hide (allocs_below w [.cells #[.int .i64 x, .int .i64 y, .int .i64 z] 27, .cells six0 25])
  have K0 := hide (show Blk (allocs w [.cells #[.int .i64 x, .int .i64 y, .int .i64 z] 27, .cells six0 25]) (w.heap.size + 0) 27 #[.int .i64 x, .int .i64 y, .int .i64 z] from allocs_at w [.cells #[.int .i64 x, .int .i64 y, .int .i64 z] 27, .cells six0 25] 0 rfl)
  have K1 := hide (show Blk (allocs w [.cells #[.int .i64 x, .int .i64 y, .int .i64 z] 27, .cells six0 25]) (w.heap.size + 1) 25 six0 from allocs_at w [.cells #[.int .i64 x, .int .i64 y, .int .i64 z] 27, .cells six0 25] 1 rfl)
  go_enter Tryz.func20, Tryz.ntmps20
  go_wp2_with fail
  refine (given_any _ 2 x y z).mono ?_
  rw [HK.out]
  rintro e w1 ⟨rfl, hb1⟩
  have HB1 := hide (hb0.out.trans (Below.mono hb1 hb0.out.size))
  have HL1 := hide hb1
  clear hb1
  go_wp2_with fail
  refine (one_canon _ _ rfl ⟨(RT t).toArray⟩ _ HAS.out (HST.out.below HB1.out (Nat.le_refl _))).mono ?_
  rw [HC.out]
  rintro e w2 ⟨rfl, hb2⟩
  have HL2 := hide (HL1.out.trans (Below.mono hb2 HL1.out.size))
  have HB2 := hide (HB1.out.trans (Below.mono hb2 HB1.out.size))
  clear hb2
  go_wp2_with fail
  refine (tzero_any _).mono ?_
  rintro e w3 ⟨rfl, hb3⟩
  have HL3 := hide (HL2.out.trans (hb3.mono HL2.out.size))
  have HB3 := hide (HB2.out.trans (hb3.mono HB2.out.size))
  clear hb3
  have hsz3 : w.heap.size + 1 < w3.heap.size := Blk.lt (Blk.below K1.out HL3.out (Blk.lt K1.out))
  go_upto_region 10 with (fail)
  have hA0 := ((Blk.below K0.out HL3.out (Blk.lt K0.out)).alloc (.cells #[.string ⟨#[48]⟩, .string ⟨#[48]⟩, .string ⟨#[48]⟩, .string ⟨#[48]⟩, .string ⟨#[48]⟩, .string ⟨(RT t).toArray⟩] 25)).alloc (.cells #[.string ⟨#[48]⟩, .string ⟨#[48]⟩, .string ⟨#[48]⟩, .string ⟨#[48]⟩, .string ⟨#[48]⟩, .string ⟨(RT t).toArray⟩] 25)
  have hA1 := ((Blk.below K1.out HL3.out (Blk.lt K1.out)).alloc (.cells #[.string ⟨#[48]⟩, .string ⟨#[48]⟩, .string ⟨#[48]⟩, .string ⟨#[48]⟩, .string ⟨#[48]⟩, .string ⟨(RT t).toArray⟩] 25)).alloc (.cells #[.string ⟨#[48]⟩, .string ⟨#[48]⟩, .string ⟨#[48]⟩, .string ⟨#[48]⟩, .string ⟨#[48]⟩, .string ⟨(RT t).toArray⟩] 25)
  have hA2 : Blk ((w3.alloc (.cells #[.string ⟨#[48]⟩, .string ⟨#[48]⟩, .string ⟨#[48]⟩, .string ⟨#[48]⟩, .string ⟨#[48]⟩, .string ⟨(RT t).toArray⟩] 25)).alloc (.cells #[.string ⟨#[48]⟩, .string ⟨#[48]⟩, .string ⟨#[48]⟩, .string ⟨#[48]⟩, .string ⟨#[48]⟩, .string ⟨(RT t).toArray⟩] 25)) w3.heap.size 25 #[.string ⟨#[48]⟩, .string ⟨#[48]⟩, .string ⟨#[48]⟩, .string ⟨#[48]⟩, .string ⟨#[48]⟩, .string ⟨(RT t).toArray⟩] := (Blk.new w3 25 #[.string ⟨#[48]⟩, .string ⟨#[48]⟩, .string ⟨#[48]⟩, .string ⟨#[48]⟩, .string ⟨#[48]⟩, .string ⟨(RT t).toArray⟩]).alloc (.cells #[.string ⟨#[48]⟩, .string ⟨#[48]⟩, .string ⟨#[48]⟩, .string ⟨#[48]⟩, .string ⟨#[48]⟩, .string ⟨(RT t).toArray⟩] 25)
  have hB4 := (HB3.out.alloc HB3.out.size (.cells #[.string ⟨#[48]⟩, .string ⟨#[48]⟩, .string ⟨#[48]⟩, .string ⟨#[48]⟩, .string ⟨#[48]⟩, .string ⟨(RT t).toArray⟩] 25)).alloc (by have := HB3.out.size; simp; omega) (.cells #[.string ⟨#[48]⟩, .string ⟨#[48]⟩, .string ⟨#[48]⟩, .string ⟨#[48]⟩, .string ⟨#[48]⟩, .string ⟨(RT t).toArray⟩] 25)
  have hr4 : ((w3.alloc (.cells #[.string ⟨#[48]⟩, .string ⟨#[48]⟩, .string ⟨#[48]⟩, .string ⟨#[48]⟩, .string ⟨#[48]⟩, .string ⟨(RT t).toArray⟩] 25)).alloc (.cells #[.string ⟨#[48]⟩, .string ⟨#[48]⟩, .string ⟨#[48]⟩, .string ⟨#[48]⟩, .string ⟨#[48]⟩, .string ⟨(RT t).toArray⟩] 25)).rowIs (w3.heap.size + 1) 25 6 (fun p => if p = 3 + 2 then .string ⟨(RT t).toArray⟩ else .string ⟨#[48]⟩) := by
    have h := World.rowIs_alloc (w3.alloc (.cells #[.string ⟨#[48]⟩, .string ⟨#[48]⟩, .string ⟨#[48]⟩, .string ⟨#[48]⟩, .string ⟨#[48]⟩, .string ⟨(RT t).toArray⟩] 25)) #[.string ⟨#[48]⟩, .string ⟨#[48]⟩, .string ⟨#[48]⟩, .string ⟨#[48]⟩, .string ⟨#[48]⟩, .string ⟨(RT t).toArray⟩] 25 (fun p => if p = 3 + 2 then .string ⟨(RT t).toArray⟩ else .string ⟨#[48]⟩) (by
      intro i hi
      match i, hi with
      | 0, _ => rfl
      | 1, _ => rfl
      | 2, _ => rfl
      | 3, _ => rfl
      | 4, _ => rfl
      | 5, _ => rfl)
    simpa using h
  have hz4 : ((w3.alloc (.cells #[.string ⟨#[48]⟩, .string ⟨#[48]⟩, .string ⟨#[48]⟩, .string ⟨#[48]⟩, .string ⟨#[48]⟩, .string ⟨(RT t).toArray⟩] 25)).alloc (.cells #[.string ⟨#[48]⟩, .string ⟨#[48]⟩, .string ⟨#[48]⟩, .string ⟨#[48]⟩, .string ⟨#[48]⟩, .string ⟨(RT t).toArray⟩] 25)).heap.size = w3.heap.size + 2 := by simp
  generalize ((w3.alloc (.cells #[.string ⟨#[48]⟩, .string ⟨#[48]⟩, .string ⟨#[48]⟩, .string ⟨#[48]⟩, .string ⟨#[48]⟩, .string ⟨(RT t).toArray⟩] 25)).alloc (.cells #[.string ⟨#[48]⟩, .string ⟨#[48]⟩, .string ⟨#[48]⟩, .string ⟨#[48]⟩, .string ⟨#[48]⟩, .string ⟨(RT t).toArray⟩] 25)) = w4 at *
  have A0 := hide hA0
  have A1 := hide hA1
  have A2 := hide hA2
  have B4 := hide hB4
  have R4 := hide hr4
  have Z4 := hide hz4
  clear hA0 hA1 hA2 hB4 hr4 hz4
  go_wp2_with fail
  go_loopg [35] 3 (fun n iv wr => ∃ j : Nat, iv = .int .i64 (j : Int) ∧ n + j = 3 ∧ wr.rowIs (w3.heap.size + 1) 25 6 (fun p => if p < j then .string ⟨(RT (-(psum (frm p x y z) (wq 2 t) 6))).toArray⟩ else if p = 3 + 2 then .string ⟨(RT t).toArray⟩ else .string ⟨#[48]⟩) ∧ Below (w3.heap.size + 1) w4 wr)
  case atStart => exact ⟨0, rfl, rfl, R4.out.congr (fun p _ => by simp), Below.refl _ _⟩
  case round =>
    obtain ⟨j, rfl, hn, hr, hb⟩ := hrel
    have HN := hide hn
    have HR := hide hr
    have HB := hide hb
    have HBw := hide (B4.out.trans (hb.mono (by omega)))
    have hile : j ≤ 3 := by omega
    clear hn hr hb
    by_cases hlt : j < 3
    · have hii : (j : Int) < 3 := by omega
      have hi0 : (0 : Int) ≤ (j : Int) := by omega
      have hZ0 := Blk.below A0.out HB.out (by omega)
      have hZ2 := Blk.below A2.out HB.out (by omega)
      have t0 : wr.cell? ⟨w3.heap.size, 0, none⟩ = some (.string ⟨#[48]⟩) := (Blk.cell hZ2 0).trans rfl
      have t1 : wr.cell? ⟨w3.heap.size, 1, none⟩ = some (.string ⟨#[48]⟩) := (Blk.cell hZ2 1).trans rfl
      have t2 : wr.cell? ⟨w3.heap.size, 2, none⟩ = some (.string ⟨#[48]⟩) := (Blk.cell hZ2 2).trans rfl
      have t3 : wr.cell? ⟨w3.heap.size, 3, none⟩ = some (.string ⟨#[48]⟩) := (Blk.cell hZ2 3).trans rfl
      have t4 : wr.cell? ⟨w3.heap.size, 4, none⟩ = some (.string ⟨#[48]⟩) := (Blk.cell hZ2 4).trans rfl
      have t5 : wr.cell? ⟨w3.heap.size, 5, none⟩ = some (.string ⟨(RT t).toArray⟩) := (Blk.cell hZ2 5).trans rfl
      have p0 : wr.cell? ⟨w.heap.size + 0, 0, none⟩ = some (.int .i64 x) := (Blk.cell hZ0 0).trans rfl
      have p1 : wr.cell? ⟨w.heap.size + 0, 1, none⟩ = some (.int .i64 y) := (Blk.cell hZ0 1).trans rfl
      have p2 : wr.cell? ⟨w.heap.size + 0, 2, none⟩ = some (.int .i64 z) := (Blk.cell hZ0 2).trans rfl
      rw [Nat.add_zero] at p0 p1 p2
      clear hZ0 hZ2
      have SK : ∀ w', Below wr.heap.size wr w' → Below wr.heap.size wr w' ∧ w'.cell? ⟨w3.heap.size, 0, none⟩ = some (.string ⟨#[48]⟩) ∧ w'.cell? ⟨w3.heap.size, 1, none⟩ = some (.string ⟨#[48]⟩) ∧ w'.cell? ⟨w3.heap.size, 2, none⟩ = some (.string ⟨#[48]⟩) ∧ w'.cell? ⟨w3.heap.size, 3, none⟩ = some (.string ⟨#[48]⟩) ∧ w'.cell? ⟨w3.heap.size, 4, none⟩ = some (.string ⟨#[48]⟩) ∧ w'.cell? ⟨w3.heap.size, 5, none⟩ = some (.string ⟨(RT t).toArray⟩) ∧ w'.cell? ⟨w.heap.size, 0, none⟩ = some (.int .i64 x) ∧ w'.cell? ⟨w.heap.size, 1, none⟩ = some (.int .i64 y) ∧ w'.cell? ⟨w.heap.size, 2, none⟩ = some (.int .i64 z) := fun w' h => ⟨h, (bcell h _ _ (block_lt_of_cell t0)).trans t0, (bcell h _ _ (block_lt_of_cell t1)).trans t1, (bcell h _ _ (block_lt_of_cell t2)).trans t2, (bcell h _ _ (block_lt_of_cell t3)).trans t3, (bcell h _ _ (block_lt_of_cell t4)).trans t4, (bcell h _ _ (block_lt_of_cell t5)).trans t5, (bcell h _ _ (block_lt_of_cell p0)).trans p0, (bcell h _ _ (block_lt_of_cell p1)).trans p1, (bcell h _ _ (block_lt_of_cell p2)).trans p2⟩
      have HF := hide (fun w => tform_any w j hlt x y z HCO.out.1.cb HCO.out.2.1.cb HCO.out.2.2.cb)
      have HT : Hid (∀ W, Std W → Calls Tryz.prog 46 #[frmV j x y z, .agg #[.string ⟨#[48]⟩, .string ⟨#[48]⟩, .string ⟨#[48]⟩, .string ⟨#[48]⟩, .string ⟨#[48]⟩, .string ⟨(RT t).toArray⟩]] W fun e w' => e = .returned (.tuple #[.string ⟨(RT (psum (frm j x y z) (wq 2 t) 6)).toArray⟩, .int .i64 0]) ∧ Below W.heap.size W w') := hide (fun W hW => ttimes_any W (frm j x y z) ⟨#[48]⟩ ⟨#[48]⟩ ⟨#[48]⟩ ⟨#[48]⟩ ⟨#[48]⟩ ⟨(RT t).toArray⟩ (wq 2 t) hm (fun i _ => frm_cb j HCO.out.1.cb HCO.out.2.1.cb HCO.out.2.2.cb i) (fun i _ => wq_sz HQ.out i) ⟨RT_zeroT.symm, RT_zeroT.symm, RT_zeroT.symm, RT_zeroT.symm, RT_zeroT.symm, rfl⟩ hW)
      have HFT := hide ((psum_six (c := frm j x y z) (q := wq 2 t) (fun i _ => frm_cb j HCO.out.1.cb HCO.out.2.1.cb HCO.out.2.2.cb i) (fun i _ => wq_sz HQ.out i) 6 (Nat.le_refl _)).fit (by omega) (by omega))
      go_upto_region 13 with (fail)
      go_region_held3 (fun w' => Below wr.heap.size wr w' ∧ w'.cell? ⟨w3.heap.size, 0, none⟩ = some (.string ⟨#[48]⟩) ∧ w'.cell? ⟨w3.heap.size, 1, none⟩ = some (.string ⟨#[48]⟩) ∧ w'.cell? ⟨w3.heap.size, 2, none⟩ = some (.string ⟨#[48]⟩) ∧ w'.cell? ⟨w3.heap.size, 3, none⟩ = some (.string ⟨#[48]⟩) ∧ w'.cell? ⟨w3.heap.size, 4, none⟩ = some (.string ⟨#[48]⟩) ∧ w'.cell? ⟨w3.heap.size, 5, none⟩ = some (.string ⟨(RT t).toArray⟩) ∧ w'.cell? ⟨w.heap.size, 0, none⟩ = some (.int .i64 x) ∧ w'.cell? ⟨w.heap.size, 1, none⟩ = some (.int .i64 y) ∧ w'.cell? ⟨w.heap.size, 2, none⟩ = some (.int .i64 z)) (first | exact SK _ (Below.refl _ _).drew | exact SK _ (Below.refl _ _) | exact SK _ (bel_next (by assumption) (by assumption) (Nat.le_refl _)))
        (first
          | (go_at_call 47; refine (HF.out _).mono ?_; rintro e wx ⟨rfl, hbW⟩)
          | (go_at_call 48; refine (tnumbers_any _ ⟨#[48]⟩ ⟨#[48]⟩ ⟨#[48]⟩ ⟨#[48]⟩ ⟨#[48]⟩ ⟨(RT t).toArray⟩).mono ?_; rintro e wx ⟨rfl, hbW⟩)
          | (go_at_call 46; refine (HT.out _ (HST.out.below (HBw.out.trans (Below.mono (And.left (by assumption)) HBw.out.size)) (Nat.le_refl _))).mono ?_; rintro e wx ⟨rfl, hbW⟩))
      obtain ⟨hbx, _⟩ : _ ∧ _ := by assumption
      have HX := hide hbx
      clear hbx SK t0 t1 t2 t3 t4 t5 p0 p1 p2
      go_wp2_with fail
      refine (rneg_any _ _ _ rfl HFT.out (HST.out.below (HBw.out.trans (Below.mono HX.out HBw.out.size)) (Nat.le_refl _))).mono ?_
      rintro e w7 ⟨rfl, hb7⟩
      have HX7 := hide (HX.out.trans (hb7.mono HX.out.size))
      clear hb7
      have hr1 := HR.out.of_block (HX7.out.block _ HR.out.lt)
      have c0 := hr1.cell (show j < 6 by omega)
      have f0 := hr1.frozen j
      rw [if_neg (by omega), if_neg (by omega)] at c0
      have HR1 := hide hr1
      have HB7 := hide (HB.out.trans (HX7.out.mono (by have := HB.out.size; have := Z4.out; omega)))
      clear hr1
      go_wp2_with fail
      go_roundg (gk - 1)
      case measure => have := HN.out; omega
      case rel =>
        refine ⟨j + 1, by go_num, by have := HN.out; omega, (HR1.out.set j (.string ⟨(RT (-(psum (frm j x y z) (wq 2 t) 6))).toArray⟩)).congr (fun p hp => ?_), HB7.out.setCell (p := ⟨w3.heap.size + 1, j, none⟩) (Nat.le_refl _) _⟩
        by_cases e1 : p = j
        · simp [e1]
        · by_cases e2 : p < j
          · simp [e1, e2, show p < j + 1 by omega]
          · simp [e1, e2, show ¬ p < j + 1 by omega]
    · have hii : ¬ (j : Int) < 3 := by omega
      have hj6 : j = 3 := by omega
      subst hj6
      have c0 := HR.out.cell (show 0 < 6 by omega)
      have c1 := HR.out.cell (show 1 < 6 by omega)
      have c2 := HR.out.cell (show 2 < 6 by omega)
      have c3 := HR.out.cell (show 3 < 6 by omega)
      have c4 := HR.out.cell (show 4 < 6 by omega)
      have c5 := HR.out.cell (show 5 < 6 by omega)
      rw [if_pos (by omega)] at c0
      rw [if_pos (by omega)] at c1
      rw [if_pos (by omega)] at c2
      rw [if_neg (by omega), if_neg (by omega)] at c3
      rw [if_neg (by omega), if_neg (by omega)] at c4
      rw [if_neg (by omega), if_pos (by omega)] at c5
      have hZ2 := Blk.below A1.out HB.out (by omega)
      have rhz := hZ2
      have rz0 : wr.cell? ⟨w.heap.size + 1, 0, none⟩ = some (.string ⟨#[]⟩) := (Blk.cell rhz 0).trans rfl
      have rf0 : wr.frozen? ⟨w.heap.size + 1, 0, none⟩ = false := Blk.frozen rhz 0
      have rz1 : wr.cell? ⟨w.heap.size + 1, 1, none⟩ = some (.string ⟨#[]⟩) := (Blk.cell rhz 1).trans rfl
      have rf1 : wr.frozen? ⟨w.heap.size + 1, 1, none⟩ = false := Blk.frozen rhz 1
      have rz2 : wr.cell? ⟨w.heap.size + 1, 2, none⟩ = some (.string ⟨#[]⟩) := (Blk.cell rhz 2).trans rfl
      have rf2 : wr.frozen? ⟨w.heap.size + 1, 2, none⟩ = false := Blk.frozen rhz 2
      have rz3 : wr.cell? ⟨w.heap.size + 1, 3, none⟩ = some (.string ⟨#[]⟩) := (Blk.cell rhz 3).trans rfl
      have rf3 : wr.frozen? ⟨w.heap.size + 1, 3, none⟩ = false := Blk.frozen rhz 3
      have rz4 : wr.cell? ⟨w.heap.size + 1, 4, none⟩ = some (.string ⟨#[]⟩) := (Blk.cell rhz 4).trans rfl
      have rf4 : wr.frozen? ⟨w.heap.size + 1, 4, none⟩ = false := Blk.frozen rhz 4
      have rz5 : wr.cell? ⟨w.heap.size + 1, 5, none⟩ = some (.string ⟨#[]⟩) := (Blk.cell rhz 5).trans rfl
      have rf5 : wr.frozen? ⟨w.heap.size + 1, 5, none⟩ = false := Blk.frozen rhz 5
      clear hZ2 rhz
      go_wp2_with fail
      exact bodyPost_ret (v := .tuple #[.agg (TV (abt 2 x y z t)), .int .i64 0]) (by simp [results, Tryz.results20, go_sem, abt, wq, RT_zeroT, rz0, rz1, rz2, rz3, rz4, rz5]) rfl ⟨rfl, ((((((HBw.out.setCell (p := ⟨w.heap.size + 1, 0, none⟩) (Nat.le_add_right _ _) _).setCell (p := ⟨w.heap.size + 1, 1, none⟩) (Nat.le_add_right _ _) _).setCell (p := ⟨w.heap.size + 1, 2, none⟩) (Nat.le_add_right _ _) _).setCell (p := ⟨w.heap.size + 1, 3, none⟩) (Nat.le_add_right _ _) _).setCell (p := ⟨w.heap.size + 1, 4, none⟩) (Nat.le_add_right _ _) _).setCell (p := ⟨w.heap.size + 1, 5, none⟩) (Nat.le_add_right _ _) _)⟩
end Go.Proofs.YtdkilkliccljeaaGreatDoor
