/- law 40: TorsorTurns. -/
import Derived.Test.YtdkilkliccljeaaGreatDoorTappl
namespace Go.Proofs.YtdkilkliccljeaaGreatDoor
open Go.RowKit MLab

theorem nb1 (w : World) (a : Obj) : Below w.heap.size w (w.alloc a) := allocs_below w [a]
theorem nb2 (w : World) (a b : Obj) : Below w.heap.size w ((w.alloc a).alloc b) := allocs_below w [a, b]
theorem two_fst (w : World) (c d : Array Value) (t u : TypeId) : Blk ((w.alloc (.cells c t)).alloc (.cells d u)) w.heap.size t c := (Blk.new w t c).alloc _
theorem two_snd (w : World) (c d : Array Value) (t u : TypeId) : Blk ((w.alloc (.cells c t)).alloc (.cells d u)) (w.heap.size + 1) u d := by
  have h := Blk.new (w.alloc (.cells c t)) u d
  simpa using h
theorem sz1000 {q : Rat} {m : Nat} (hm : 2 * m + 3 ≤ 100000) (h1 : 1 ≤ m) (h : Sz m m q) : (⟨(RT q).toArray⟩ : ByteArray).size ≤ 100000 := by
  have := RT_len_sz h1 h
  rw [Lib.size_eq]; show (RT q).length ≤ 100000; omega

theorem turn_pack0 (px py pz qx qy qz : Int) (a : ByteArray) (hp : Co px ∧ Co py ∧ Co pz) (hq : Co qx ∧ Co qy ∧ Co qz) (ha : a.size ≤ 24) (hc : chkR a.data.toList = 0) :
    ∃ T0 T1 T2 U0 U1 U2 W0 W1 W2 X0 X1 X2 : ByteArray, (∀ s ∈ [W0, W1, W2, X0, X1, X2], s.size ≤ 100000) ∧
    (∀ w, Std w → Calls Tryz.prog 20 #[.int .i64 0, .agg #[.int .i64 px, .int .i64 py, .int .i64 pz], .string a] w fun e w' => e = .returned (.tuple #[.agg #[.string T0, .string T1, .string T2, .string W0, .string W1, .string W2], .int .i64 0]) ∧ Below w.heap.size w w') ∧
    (∀ w, Std w → Calls Tryz.prog 20 #[.int .i64 0, .agg #[.int .i64 qx, .int .i64 qy, .int .i64 qz], .string a] w fun e w' => e = .returned (.tuple #[.agg #[.string U0, .string U1, .string U2, .string W0, .string W1, .string W2], .int .i64 0]) ∧ Below w.heap.size w w') ∧
    (∀ w, Std w → Calls Tryz.prog 12 #[.agg #[.string T0, .string T1, .string T2, .string W0, .string W1, .string W2], .agg #[.int .i64 qx, .int .i64 py, .int .i64 pz]] w fun e w' => e = .returned (.tuple #[.agg #[.string X0, .string X1, .string X2], .int .i64 0]) ∧ Below w.heap.size w w') ∧
    (∀ w, Calls Tryz.prog 25 #[.int .i64 qx] w fun e w' => e = .returned (.string X0) ∧ Below w.heap.size w w') ∧
    (∀ w, Calls Tryz.prog 25 #[.int .i64 py] w fun e w' => e = .returned (.string X1) ∧ Below w.heap.size w w') ∧
    (∀ w, Calls Tryz.prog 25 #[.int .i64 pz] w fun e w' => e = .returned (.string X2) ∧ Below w.heap.size w w') := by
  obtain ⟨t, ht, hz⟩ := short_sz (k := 24) (by omega) hc (by rw [← Lib.size_eq]; exact ha)
  obtain rfl := ba_eq ht
  have hx : ∀ i, i < 3 → mvd i qx py pz (abt 0 px py pz t) = (coo i qx py pz : Rat) := fun i hi => by
    have := abt_on 0 (by omega) i hi px py pz qx qy qz t
    simpa [onx, ony, onz] using this
  have ho : Co qx ∧ Co py ∧ Co pz := ⟨hq.1, hp.2.1, hp.2.2⟩
  have h := fun w hs => tapply_ok w ⟨(RT (abt 0 px py pz t 0)).toArray⟩ ⟨(RT (abt 0 px py pz t 1)).toArray⟩ ⟨(RT (abt 0 px py pz t 2)).toArray⟩ ⟨(RT (abt 0 px py pz t 3)).toArray⟩ ⟨(RT (abt 0 px py pz t 4)).toArray⟩ ⟨(RT (abt 0 px py pz t 5)).toArray⟩ (abt 0 px py pz t) qx py pz (m := 156) (by omega) (fun i _ => abt_sz hp.1.cb hp.2.1.cb hp.2.2.cb hz i) ⟨rfl, rfl, rfl, rfl, rfl, rfl⟩ ho hs
  rw [hx 0 (by omega), hx 1 (by omega), hx 2 (by omega)] at h
  refine ⟨_, _, _, ⟨(RT (abt 0 qx qy qz t 0)).toArray⟩, ⟨(RT (abt 0 qx qy qz t 1)).toArray⟩, ⟨(RT (abt 0 qx qy qz t 2)).toArray⟩, ⟨(RT (wq 0 t 3)).toArray⟩, ⟨(RT (wq 0 t 4)).toArray⟩, ⟨(RT (wq 0 t 5)).toArray⟩, _, _, _, ?_, fun w hs => tabout0 w px py pz t (m := 24) (by omega) hz hp hs, fun w hs => tabout0 w qx qy qz t (m := 24) (by omega) hz hq hs, h, fun w => r2whole_any _ (by have := ho.1; omega) (by have := ho.1; omega) w, fun w => r2whole_any _ (by have := ho.2.1; omega) (by have := ho.2.1; omega) w, fun w => r2whole_any _ (by have := ho.2.2; omega) (by have := ho.2.2; omega) w⟩
  intro s hm
  simp only [List.mem_cons, List.not_mem_nil, or_false] at hm
  rcases hm with rfl | rfl | rfl | rfl | rfl | rfl
  · exact sz1000 (m := 24) (by omega) (by omega) (wq_sz hz _)
  · exact sz1000 (m := 24) (by omega) (by omega) (wq_sz hz _)
  · exact sz1000 (m := 24) (by omega) (by omega) (wq_sz hz _)
  · exact sz1000 (m := 6) (by omega) (by omega) (ho.1.cb.sz.mono (by omega) (by omega))
  · exact sz1000 (m := 6) (by omega) (by omega) (ho.2.1.cb.sz.mono (by omega) (by omega))
  · exact sz1000 (m := 6) (by omega) (by omega) (ho.2.2.cb.sz.mono (by omega) (by omega))

theorem turn_pack1 (px py pz qx qy qz : Int) (a : ByteArray) (hp : Co px ∧ Co py ∧ Co pz) (hq : Co qx ∧ Co qy ∧ Co qz) (ha : a.size ≤ 24) (hc : chkR a.data.toList = 0) :
    ∃ T0 T1 T2 U0 U1 U2 W0 W1 W2 X0 X1 X2 : ByteArray, (∀ s ∈ [W0, W1, W2, X0, X1, X2], s.size ≤ 100000) ∧
    (∀ w, Std w → Calls Tryz.prog 20 #[.int .i64 1, .agg #[.int .i64 px, .int .i64 py, .int .i64 pz], .string a] w fun e w' => e = .returned (.tuple #[.agg #[.string T0, .string T1, .string T2, .string W0, .string W1, .string W2], .int .i64 0]) ∧ Below w.heap.size w w') ∧
    (∀ w, Std w → Calls Tryz.prog 20 #[.int .i64 1, .agg #[.int .i64 qx, .int .i64 qy, .int .i64 qz], .string a] w fun e w' => e = .returned (.tuple #[.agg #[.string U0, .string U1, .string U2, .string W0, .string W1, .string W2], .int .i64 0]) ∧ Below w.heap.size w w') ∧
    (∀ w, Std w → Calls Tryz.prog 12 #[.agg #[.string T0, .string T1, .string T2, .string W0, .string W1, .string W2], .agg #[.int .i64 px, .int .i64 qy, .int .i64 pz]] w fun e w' => e = .returned (.tuple #[.agg #[.string X0, .string X1, .string X2], .int .i64 0]) ∧ Below w.heap.size w w') ∧
    (∀ w, Calls Tryz.prog 25 #[.int .i64 px] w fun e w' => e = .returned (.string X0) ∧ Below w.heap.size w w') ∧
    (∀ w, Calls Tryz.prog 25 #[.int .i64 qy] w fun e w' => e = .returned (.string X1) ∧ Below w.heap.size w w') ∧
    (∀ w, Calls Tryz.prog 25 #[.int .i64 pz] w fun e w' => e = .returned (.string X2) ∧ Below w.heap.size w w') := by
  obtain ⟨t, ht, hz⟩ := short_sz (k := 24) (by omega) hc (by rw [← Lib.size_eq]; exact ha)
  obtain rfl := ba_eq ht
  have hx : ∀ i, i < 3 → mvd i px qy pz (abt 1 px py pz t) = (coo i px qy pz : Rat) := fun i hi => by
    have := abt_on 1 (by omega) i hi px py pz qx qy qz t
    simpa [onx, ony, onz] using this
  have ho : Co px ∧ Co qy ∧ Co pz := ⟨hp.1, hq.2.1, hp.2.2⟩
  have h := fun w hs => tapply_ok w ⟨(RT (abt 1 px py pz t 0)).toArray⟩ ⟨(RT (abt 1 px py pz t 1)).toArray⟩ ⟨(RT (abt 1 px py pz t 2)).toArray⟩ ⟨(RT (abt 1 px py pz t 3)).toArray⟩ ⟨(RT (abt 1 px py pz t 4)).toArray⟩ ⟨(RT (abt 1 px py pz t 5)).toArray⟩ (abt 1 px py pz t) px qy pz (m := 156) (by omega) (fun i _ => abt_sz hp.1.cb hp.2.1.cb hp.2.2.cb hz i) ⟨rfl, rfl, rfl, rfl, rfl, rfl⟩ ho hs
  rw [hx 0 (by omega), hx 1 (by omega), hx 2 (by omega)] at h
  refine ⟨_, _, _, ⟨(RT (abt 1 qx qy qz t 0)).toArray⟩, ⟨(RT (abt 1 qx qy qz t 1)).toArray⟩, ⟨(RT (abt 1 qx qy qz t 2)).toArray⟩, ⟨(RT (wq 1 t 3)).toArray⟩, ⟨(RT (wq 1 t 4)).toArray⟩, ⟨(RT (wq 1 t 5)).toArray⟩, _, _, _, ?_, fun w hs => tabout1 w px py pz t (m := 24) (by omega) hz hp hs, fun w hs => tabout1 w qx qy qz t (m := 24) (by omega) hz hq hs, h, fun w => r2whole_any _ (by have := ho.1; omega) (by have := ho.1; omega) w, fun w => r2whole_any _ (by have := ho.2.1; omega) (by have := ho.2.1; omega) w, fun w => r2whole_any _ (by have := ho.2.2; omega) (by have := ho.2.2; omega) w⟩
  intro s hm
  simp only [List.mem_cons, List.not_mem_nil, or_false] at hm
  rcases hm with rfl | rfl | rfl | rfl | rfl | rfl
  · exact sz1000 (m := 24) (by omega) (by omega) (wq_sz hz _)
  · exact sz1000 (m := 24) (by omega) (by omega) (wq_sz hz _)
  · exact sz1000 (m := 24) (by omega) (by omega) (wq_sz hz _)
  · exact sz1000 (m := 6) (by omega) (by omega) (ho.1.cb.sz.mono (by omega) (by omega))
  · exact sz1000 (m := 6) (by omega) (by omega) (ho.2.1.cb.sz.mono (by omega) (by omega))
  · exact sz1000 (m := 6) (by omega) (by omega) (ho.2.2.cb.sz.mono (by omega) (by omega))

theorem turn_pack2 (px py pz qx qy qz : Int) (a : ByteArray) (hp : Co px ∧ Co py ∧ Co pz) (hq : Co qx ∧ Co qy ∧ Co qz) (ha : a.size ≤ 24) (hc : chkR a.data.toList = 0) :
    ∃ T0 T1 T2 U0 U1 U2 W0 W1 W2 X0 X1 X2 : ByteArray, (∀ s ∈ [W0, W1, W2, X0, X1, X2], s.size ≤ 100000) ∧
    (∀ w, Std w → Calls Tryz.prog 20 #[.int .i64 2, .agg #[.int .i64 px, .int .i64 py, .int .i64 pz], .string a] w fun e w' => e = .returned (.tuple #[.agg #[.string T0, .string T1, .string T2, .string W0, .string W1, .string W2], .int .i64 0]) ∧ Below w.heap.size w w') ∧
    (∀ w, Std w → Calls Tryz.prog 20 #[.int .i64 2, .agg #[.int .i64 qx, .int .i64 qy, .int .i64 qz], .string a] w fun e w' => e = .returned (.tuple #[.agg #[.string U0, .string U1, .string U2, .string W0, .string W1, .string W2], .int .i64 0]) ∧ Below w.heap.size w w') ∧
    (∀ w, Std w → Calls Tryz.prog 12 #[.agg #[.string T0, .string T1, .string T2, .string W0, .string W1, .string W2], .agg #[.int .i64 px, .int .i64 py, .int .i64 qz]] w fun e w' => e = .returned (.tuple #[.agg #[.string X0, .string X1, .string X2], .int .i64 0]) ∧ Below w.heap.size w w') ∧
    (∀ w, Calls Tryz.prog 25 #[.int .i64 px] w fun e w' => e = .returned (.string X0) ∧ Below w.heap.size w w') ∧
    (∀ w, Calls Tryz.prog 25 #[.int .i64 py] w fun e w' => e = .returned (.string X1) ∧ Below w.heap.size w w') ∧
    (∀ w, Calls Tryz.prog 25 #[.int .i64 qz] w fun e w' => e = .returned (.string X2) ∧ Below w.heap.size w w') := by
  obtain ⟨t, ht, hz⟩ := short_sz (k := 24) (by omega) hc (by rw [← Lib.size_eq]; exact ha)
  obtain rfl := ba_eq ht
  have hx : ∀ i, i < 3 → mvd i px py qz (abt 2 px py pz t) = (coo i px py qz : Rat) := fun i hi => by
    have := abt_on 2 (by omega) i hi px py pz qx qy qz t
    simpa [onx, ony, onz] using this
  have ho : Co px ∧ Co py ∧ Co qz := ⟨hp.1, hp.2.1, hq.2.2⟩
  have h := fun w hs => tapply_ok w ⟨(RT (abt 2 px py pz t 0)).toArray⟩ ⟨(RT (abt 2 px py pz t 1)).toArray⟩ ⟨(RT (abt 2 px py pz t 2)).toArray⟩ ⟨(RT (abt 2 px py pz t 3)).toArray⟩ ⟨(RT (abt 2 px py pz t 4)).toArray⟩ ⟨(RT (abt 2 px py pz t 5)).toArray⟩ (abt 2 px py pz t) px py qz (m := 156) (by omega) (fun i _ => abt_sz hp.1.cb hp.2.1.cb hp.2.2.cb hz i) ⟨rfl, rfl, rfl, rfl, rfl, rfl⟩ ho hs
  rw [hx 0 (by omega), hx 1 (by omega), hx 2 (by omega)] at h
  refine ⟨_, _, _, ⟨(RT (abt 2 qx qy qz t 0)).toArray⟩, ⟨(RT (abt 2 qx qy qz t 1)).toArray⟩, ⟨(RT (abt 2 qx qy qz t 2)).toArray⟩, ⟨(RT (wq 2 t 3)).toArray⟩, ⟨(RT (wq 2 t 4)).toArray⟩, ⟨(RT (wq 2 t 5)).toArray⟩, _, _, _, ?_, fun w hs => tabout2 w px py pz t (m := 24) (by omega) hz hp hs, fun w hs => tabout2 w qx qy qz t (m := 24) (by omega) hz hq hs, h, fun w => r2whole_any _ (by have := ho.1; omega) (by have := ho.1; omega) w, fun w => r2whole_any _ (by have := ho.2.1; omega) (by have := ho.2.1; omega) w, fun w => r2whole_any _ (by have := ho.2.2; omega) (by have := ho.2.2; omega) w⟩
  intro s hm
  simp only [List.mem_cons, List.not_mem_nil, or_false] at hm
  rcases hm with rfl | rfl | rfl | rfl | rfl | rfl
  · exact sz1000 (m := 24) (by omega) (by omega) (wq_sz hz _)
  · exact sz1000 (m := 24) (by omega) (by omega) (wq_sz hz _)
  · exact sz1000 (m := 24) (by omega) (by omega) (wq_sz hz _)
  · exact sz1000 (m := 6) (by omega) (by omega) (ho.1.cb.sz.mono (by omega) (by omega))
  · exact sz1000 (m := 6) (by omega) (by omega) (ho.2.1.cb.sz.mono (by omega) (by omega))
  · exact sz1000 (m := 6) (by omega) (by omega) (ho.2.2.cb.sz.mono (by omega) (by omega))

set_option maxRecDepth 100000 in
set_option maxHeartbeats 16000000 in
theorem turns0 (w : World) (n : Int) (px py pz qx qy qz : Int) (a : ByteArray) (h0 : 0 ≤ n) (hk : n % 3 = 0) (ha : a.size ≤ maxLen) (hs : Std w) :
    Calls Tryz.prog 5 #[.int .u8 n, .agg #[.int .i64 px, .int .i64 py, .int .i64 pz, .int .i64 qx, .int .i64 qy, .int .i64 qz], .string a] w fun e w' => e = .returned (.bool true) ∧ Below w.heap.size w w' := by
  have hb0 := allocs_below w [.cells #[.int .i64 px, .int .i64 py, .int .i64 pz, .int .i64 qx, .int .i64 qy, .int .i64 qz] 50]
  have hk0 : Blk (allocs w [.cells #[.int .i64 px, .int .i64 py, .int .i64 pz, .int .i64 qx, .int .i64 qy, .int .i64 qz] 50]) (w.heap.size + 0) 50 #[.int .i64 px, .int .i64 py, .int .i64 pz, .int .i64 qx, .int .i64 qy, .int .i64 qz] := allocs_at w [.cells #[.int .i64 px, .int .i64 py, .int .i64 pz, .int .i64 qx, .int .i64 qy, .int .i64 qz] 50] 0 rfl
  unfold allocs at hb0 hk0
  simp only [List.foldl_cons, List.foldl_nil] at hb0 hk0
  rw [Nat.add_zero] at hk0
  have HS := hide hs
  have hln : a.size < 9223372036854775808 := by unfold maxLen at ha; omega
  have hwr : IntKind.i64.wrap (n.tmod 3) = 0 := by rw [Int.tmod_eq_emod_of_nonneg h0, hk]; rfl
  clear hs ha
  go_enter Tryz.func5, Tryz.ntmps5
  go_upto_region 1 with (fail)
  generalize (w.alloc (.cells #[.int .i64 px, .int .i64 py, .int .i64 pz, .int .i64 qx, .int .i64 qy, .int .i64 qz] 50)) = w0 at *
  have HB := hide hb0
  have K0 := hide hk0
  clear hb0 hk0
  have c0 := (Blk.cell K0.out 0).trans (rfl : _ = some (Value.int .i64 px))
  have c1 := (Blk.cell K0.out 1).trans (rfl : _ = some (Value.int .i64 py))
  have c2 := (Blk.cell K0.out 2).trans (rfl : _ = some (Value.int .i64 pz))
  have c3 := (Blk.cell K0.out 3).trans (rfl : _ = some (Value.int .i64 qx))
  have c4 := (Blk.cell K0.out 4).trans (rfl : _ = some (Value.int .i64 qy))
  have c5 := (Blk.cell K0.out 5).trans (rfl : _ = some (Value.int .i64 qz))
  have SK : ∀ w', Below w0.heap.size w0 w' → Below w0.heap.size w0 w' ∧ w'.cell? ⟨w.heap.size, 0, none⟩ = some (.int .i64 px) ∧ w'.cell? ⟨w.heap.size, 1, none⟩ = some (.int .i64 py) ∧ w'.cell? ⟨w.heap.size, 2, none⟩ = some (.int .i64 pz) ∧ w'.cell? ⟨w.heap.size, 3, none⟩ = some (.int .i64 qx) ∧ w'.cell? ⟨w.heap.size, 4, none⟩ = some (.int .i64 qy) ∧ w'.cell? ⟨w.heap.size, 5, none⟩ = some (.int .i64 qz) := fun w' h => ⟨h, (bcell h _ _ (block_lt_of_cell c0)).trans c0, (bcell h _ _ (block_lt_of_cell c1)).trans c1, (bcell h _ _ (block_lt_of_cell c2)).trans c2, (bcell h _ _ (block_lt_of_cell c3)).trans c3, (bcell h _ _ (block_lt_of_cell c4)).trans c4, (bcell h _ _ (block_lt_of_cell c5)).trans c5⟩
  go_cut [7, 8, 9] (fun v7 v8 v9 wc => ∃ b7 b8, v7 = .pointer (some ⟨b7, 0, none⟩) ∧ v8 = .pointer (some ⟨b8, 0, none⟩) ∧ v9 = .int .i64 0 ∧ Blk wc b7 27 #[.int .i64 px, .int .i64 py, .int .i64 pz] ∧ Blk wc b8 27 #[.int .i64 qx, .int .i64 qy, .int .i64 qz] ∧ Below w0.heap.size w0 wc)
  case first =>
    as_aux_lemma =>
      go_region_held3 (fun w' => Below w0.heap.size w0 w' ∧ w'.cell? ⟨w.heap.size, 0, none⟩ = some (.int .i64 px) ∧ w'.cell? ⟨w.heap.size, 1, none⟩ = some (.int .i64 py) ∧ w'.cell? ⟨w.heap.size, 2, none⟩ = some (.int .i64 pz) ∧ w'.cell? ⟨w.heap.size, 3, none⟩ = some (.int .i64 qx) ∧ w'.cell? ⟨w.heap.size, 4, none⟩ = some (.int .i64 qy) ∧ w'.cell? ⟨w.heap.size, 5, none⟩ = some (.int .i64 qz)) (first | exact SK _ (Below.refl _ _).drew | exact SK _ (Below.refl _ _) | exact SK _ (nb1 _ _).drew | exact SK _ (nb1 _ _) | exact SK _ (nb2 _ _ _).drew | exact SK _ (nb2 _ _ _)) (fail)
      all_goals
        go_wp2_with fail
        go_meet
        case rel =>
          refine ⟨_, _, rfl, rfl, rfl, ?_, ?_, ?_⟩
          · first | exact (two_fst _ _ _ _ _).drew | exact (two_snd _ _ _ _ _).drew | exact two_fst _ _ _ _ _ | exact two_snd _ _ _ _ _
          · first | exact (two_fst _ _ _ _ _).drew | exact (two_snd _ _ _ _ _).drew | exact two_fst _ _ _ _ _ | exact two_snd _ _ _ _ _
          · first | exact (nb2 _ _ _).drew | exact nb2 _ _ _
  case rest =>
    obtain ⟨b7, b8, rfl, rfl, rfl, h7, h8, hbc⟩ := hcut
    have K_p := hide h7
    have K_q := hide h8
    replace HB := hide (HB.out.trans (hbc.mono HB.out.size))
    clear h7 h8 hbc hk hwr K0 SK c0 c1 c2 c3 c4 c5
    by_cases hp : Co px ∧ Co py ∧ Co pz
    · by_cases hq : Co qx ∧ Co qy ∧ Co qz
      · by_cases hl : a.size ≤ 24
        · by_cases hc : chkR a.data.toList = 0
          · have HD := hide (decide_eq_true hp)
            have HE := hide (decide_eq_true hq)
            have hl1 : ¬ (24 : Int) < (a.size : Int) := by omega
            have hl2 : ¬ 24 < a.size := by omega
            obtain ⟨T0, T1, T2, U0, U1, U2, W0, W1, W2, X0, X1, X2, hz, hA, hB, hP, hX0, hX1, hX2⟩ := turn_pack0 px py pz qx qy qz a hp hq hl hc
            have HA := hide hA
            have HBB := hide hB
            have HP := hide hP
            have HX0 := hide hX0
            have HX1 := hide hX1
            have HX2 := hide hX2
            have HC := hide hc
            have m6 : ∀ s ∈ [W0, W1, W2, X0, X1, X2], s.size ≤ maxLen := fun s h => by have := hz s h; unfold maxLen; omega
            have e1 := fun w => self_r3 W0 W1 W2 (m6 _ (by simp)) (m6 _ (by simp)) (m6 _ (by simp)) w
            have e2 := fun w => self_r3 X0 X1 X2 (m6 _ (by simp)) (m6 _ (by simp)) (m6 _ (by simp)) w
            clear hp hq hc hA hB hP hX0 hX1 hX2 hz m6
            have p0 := (Blk.cell K_p.out 0).trans (rfl : _ = some (Value.int .i64 px))
            have p1 := (Blk.cell K_p.out 1).trans (rfl : _ = some (Value.int .i64 py))
            have p2 := (Blk.cell K_p.out 2).trans (rfl : _ = some (Value.int .i64 pz))
            go_wp2_with fail
            refine (rrights_any _ px py pz).mono ?_
            rw [HD.out]
            rintro e w1 ⟨rfl, hb1⟩
            clear p0 p1 p2
            replace K_p := hide (Blk.below K_p.out hb1 (Blk.lt K_p.out))
            replace K_q := hide (Blk.below K_q.out hb1 (Blk.lt K_q.out))
            replace HB := hide (HB.out.trans (hb1.mono HB.out.size))
            clear hb1
            have q0 := (Blk.cell K_q.out 0).trans (rfl : _ = some (Value.int .i64 qx))
            have q1 := (Blk.cell K_q.out 1).trans (rfl : _ = some (Value.int .i64 qy))
            have q2 := (Blk.cell K_q.out 2).trans (rfl : _ = some (Value.int .i64 qz))
            go_wp2_with fail
            refine (rrights_any _ qx qy qz).mono ?_
            rw [HE.out]
            rintro e w2 ⟨rfl, hb2⟩
            clear q0 q1 q2
            replace K_p := hide (Blk.below K_p.out hb2 (Blk.lt K_p.out))
            replace K_q := hide (Blk.below K_q.out hb2 (Blk.lt K_q.out))
            replace HB := hide (HB.out.trans (hb2.mono HB.out.size))
            clear hb2
            go_wp2_with fail
            refine (rrcheck_any _ a _ rfl (by omega)).mono ?_
            rw [HC.out]
            rintro e w3 ⟨rfl, hb3⟩
            replace K_p := hide (Blk.below K_p.out hb3 (Blk.lt K_p.out))
            replace K_q := hide (Blk.below K_q.out hb3 (Blk.lt K_q.out))
            replace HB := hide (HB.out.trans (hb3.mono HB.out.size))
            clear hb3
            have p0 := (Blk.cell K_p.out 0).trans (rfl : _ = some (Value.int .i64 px))
            have p1 := (Blk.cell K_p.out 1).trans (rfl : _ = some (Value.int .i64 py))
            have p2 := (Blk.cell K_p.out 2).trans (rfl : _ = some (Value.int .i64 pz))
            go_wp2_with fail
            refine (HA.out _ (std_next HS.out HB.out)).mono ?_
            rintro e w4 ⟨rfl, hb4⟩
            clear p0 p1 p2
            replace K_p := hide (Blk.below K_p.out hb4 (Blk.lt K_p.out))
            replace K_q := hide (Blk.below K_q.out hb4 (Blk.lt K_q.out))
            replace HB := hide (HB.out.trans (hb4.mono HB.out.size))
            clear hb4
            go_upto_region 5 with (fail)
            have lt_t_p : b7 < w4.heap.size := Blk.lt K_p.out
            have lt_t_q : b8 < w4.heap.size := Blk.lt K_q.out
            replace K_p := K_p.out.alloc (.cells #[.string T0, .string T1, .string T2, .string W0, .string W1, .string W2] 25)
            replace K_q := K_q.out.alloc (.cells #[.string T0, .string T1, .string T2, .string W0, .string W1, .string W2] 25)
            replace HB := HB.out.alloc HB.out.size (.cells #[.string T0, .string T1, .string T2, .string W0, .string W1, .string W2] 25)
            have K_t := Blk.new w4 25 #[.string T0, .string T1, .string T2, .string W0, .string W1, .string W2]
            generalize w4.alloc (.cells #[.string T0, .string T1, .string T2, .string W0, .string W1, .string W2] 25) = w5 at *
            replace K_p := hide K_p
            replace K_q := hide K_q
            replace K_t := hide K_t
            replace HB := hide HB
            have q0 := (Blk.cell K_q.out 0).trans (rfl : _ = some (Value.int .i64 qx))
            have q1 := (Blk.cell K_q.out 1).trans (rfl : _ = some (Value.int .i64 qy))
            have q2 := (Blk.cell K_q.out 2).trans (rfl : _ = some (Value.int .i64 qz))
            go_wp2_with fail
            refine (HBB.out _ (std_next HS.out HB.out)).mono ?_
            rintro e w6 ⟨rfl, hb6⟩
            clear q0 q1 q2
            replace K_p := hide (Blk.below K_p.out hb6 (Blk.lt K_p.out))
            replace K_q := hide (Blk.below K_q.out hb6 (Blk.lt K_q.out))
            replace K_t := hide (Blk.below K_t.out hb6 (Blk.lt K_t.out))
            replace HB := hide (HB.out.trans (hb6.mono HB.out.size))
            clear hb6
            go_upto_region 6 with (fail)
            have lt_u_p : b7 < w6.heap.size := Blk.lt K_p.out
            have lt_u_q : b8 < w6.heap.size := Blk.lt K_q.out
            have lt_u_t : w4.heap.size < w6.heap.size := Blk.lt K_t.out
            replace K_p := K_p.out.alloc (.cells #[.string U0, .string U1, .string U2, .string W0, .string W1, .string W2] 25)
            replace K_q := K_q.out.alloc (.cells #[.string U0, .string U1, .string U2, .string W0, .string W1, .string W2] 25)
            replace K_t := K_t.out.alloc (.cells #[.string U0, .string U1, .string U2, .string W0, .string W1, .string W2] 25)
            replace HB := HB.out.alloc HB.out.size (.cells #[.string U0, .string U1, .string U2, .string W0, .string W1, .string W2] 25)
            have K_u := Blk.new w6 25 #[.string U0, .string U1, .string U2, .string W0, .string W1, .string W2]
            generalize w6.alloc (.cells #[.string U0, .string U1, .string U2, .string W0, .string W1, .string W2] 25) = w7 at *
            replace K_p := hide K_p
            replace K_q := hide K_q
            replace K_t := hide K_t
            replace K_u := hide K_u
            replace HB := hide HB
            have HW7 := hide HB.out.size
            have t0 := (Blk.cell K_t.out 0).trans (rfl : _ = some (Value.string T0))
            have t1 := (Blk.cell K_t.out 1).trans (rfl : _ = some (Value.string T1))
            have t2 := (Blk.cell K_t.out 2).trans (rfl : _ = some (Value.string T2))
            have t3 := (Blk.cell K_t.out 3).trans (rfl : _ = some (Value.string W0))
            have t4 := (Blk.cell K_t.out 4).trans (rfl : _ = some (Value.string W1))
            have t5 := (Blk.cell K_t.out 5).trans (rfl : _ = some (Value.string W2))
            have u0 := (Blk.cell K_u.out 0).trans (rfl : _ = some (Value.string U0))
            have u1 := (Blk.cell K_u.out 1).trans (rfl : _ = some (Value.string U1))
            have u2 := (Blk.cell K_u.out 2).trans (rfl : _ = some (Value.string U2))
            have u3 := (Blk.cell K_u.out 3).trans (rfl : _ = some (Value.string W0))
            have u4 := (Blk.cell K_u.out 4).trans (rfl : _ = some (Value.string W1))
            have u5 := (Blk.cell K_u.out 5).trans (rfl : _ = some (Value.string W2))
            have p0 := (Blk.cell K_p.out 0).trans (rfl : _ = some (Value.int .i64 px))
            have p1 := (Blk.cell K_p.out 1).trans (rfl : _ = some (Value.int .i64 py))
            have p2 := (Blk.cell K_p.out 2).trans (rfl : _ = some (Value.int .i64 pz))
            go_upto_region 9 with (fail)
            clear t0 t1 t2 t3 t4 t5 u0 u1 u2 u3 u4 u5 p0 p1 p2
            have lt_o_p : b7 < w7.heap.size := Blk.lt K_p.out
            have lt_o_q : b8 < w7.heap.size := Blk.lt K_q.out
            have lt_o_t : w4.heap.size < w7.heap.size := Blk.lt K_t.out
            have lt_o_u : w6.heap.size < w7.heap.size := Blk.lt K_u.out
            replace K_p := K_p.out.alloc (.cells #[.int .i64 px, .int .i64 py, .int .i64 pz] 27)
            replace K_q := K_q.out.alloc (.cells #[.int .i64 px, .int .i64 py, .int .i64 pz] 27)
            replace K_t := K_t.out.alloc (.cells #[.int .i64 px, .int .i64 py, .int .i64 pz] 27)
            replace K_u := K_u.out.alloc (.cells #[.int .i64 px, .int .i64 py, .int .i64 pz] 27)
            replace HB := HB.out.alloc HB.out.size (.cells #[.int .i64 px, .int .i64 py, .int .i64 pz] 27)
            have K_o := Blk.new w7 27 #[.int .i64 px, .int .i64 py, .int .i64 pz]
            generalize w7.alloc (.cells #[.int .i64 px, .int .i64 py, .int .i64 pz] 27) = w8 at *
            replace K_p := hide K_p
            replace K_q := hide K_q
            replace K_t := hide K_t
            replace K_u := hide K_u
            replace K_o := hide K_o
            replace HB := hide HB
            have q0 := (Blk.cell K_q.out 0).trans (rfl : _ = some (Value.int .i64 qx))
            have q1 := (Blk.cell K_q.out 1).trans (rfl : _ = some (Value.int .i64 qy))
            have q2 := (Blk.cell K_q.out 2).trans (rfl : _ = some (Value.int .i64 qz))
            have o0 := (Blk.cell K_o.out 0).trans (rfl : _ = some (Value.int .i64 px))
            have of0 := Blk.frozen K_o.out 0
            have o1 := (Blk.cell K_o.out 1).trans (rfl : _ = some (Value.int .i64 py))
            have of1 := Blk.frozen K_o.out 1
            have o2 := (Blk.cell K_o.out 2).trans (rfl : _ = some (Value.int .i64 pz))
            have of2 := Blk.frozen K_o.out 2
            have hwb : w.heap.size ≤ w7.heap.size := HW7.out
            go_upto_region 15 with (fail)
            clear q0 q1 q2 o0 of0 o1 of1 o2 of2
            replace K_p := K_p.out.far (p := ⟨w7.heap.size, 0, none⟩) (by show b7 ≠ w7.heap.size; omega) (.int .i64 qx)
            replace K_q := K_q.out.far (p := ⟨w7.heap.size, 0, none⟩) (by show b8 ≠ w7.heap.size; omega) (.int .i64 qx)
            replace K_t := K_t.out.far (p := ⟨w7.heap.size, 0, none⟩) (by show w4.heap.size ≠ w7.heap.size; omega) (.int .i64 qx)
            replace K_u := K_u.out.far (p := ⟨w7.heap.size, 0, none⟩) (by show w6.heap.size ≠ w7.heap.size; omega) (.int .i64 qx)
            replace K_o : Blk (w8.setCell ⟨w7.heap.size, 0, none⟩ (.int .i64 qx)) w7.heap.size 27 #[.int .i64 qx, .int .i64 py, .int .i64 pz] := K_o.out.set_ 0 (.int .i64 qx)
            replace HB := HB.out.setCell (p := ⟨w7.heap.size, 0, none⟩) (by show w.heap.size ≤ w7.heap.size; omega) (.int .i64 qx)
            generalize w8.setCell ⟨w7.heap.size, 0, none⟩ (.int .i64 qx) = w9 at *
            replace K_p := hide K_p
            replace K_q := hide K_q
            replace K_t := hide K_t
            replace K_u := hide K_u
            replace K_o := hide K_o
            replace HB := hide HB
            have t0 := (Blk.cell K_t.out 0).trans (rfl : _ = some (Value.string T0))
            have t1 := (Blk.cell K_t.out 1).trans (rfl : _ = some (Value.string T1))
            have t2 := (Blk.cell K_t.out 2).trans (rfl : _ = some (Value.string T2))
            have t3 := (Blk.cell K_t.out 3).trans (rfl : _ = some (Value.string W0))
            have t4 := (Blk.cell K_t.out 4).trans (rfl : _ = some (Value.string W1))
            have t5 := (Blk.cell K_t.out 5).trans (rfl : _ = some (Value.string W2))
            have o0 := (Blk.cell K_o.out 0).trans (rfl : _ = some (Value.int .i64 qx))
            have o1 := (Blk.cell K_o.out 1).trans (rfl : _ = some (Value.int .i64 py))
            have o2 := (Blk.cell K_o.out 2).trans (rfl : _ = some (Value.int .i64 pz))
            go_wp2_with fail
            refine (HP.out _ (std_next HS.out HB.out)).mono ?_
            rintro e w10 ⟨rfl, hb10⟩
            clear t0 t1 t2 t3 t4 t5 o0 o1 o2
            replace K_p := hide (Blk.below K_p.out hb10 (Blk.lt K_p.out))
            replace K_q := hide (Blk.below K_q.out hb10 (Blk.lt K_q.out))
            replace K_t := hide (Blk.below K_t.out hb10 (Blk.lt K_t.out))
            replace K_u := hide (Blk.below K_u.out hb10 (Blk.lt K_u.out))
            replace K_o := hide (Blk.below K_o.out hb10 (Blk.lt K_o.out))
            replace HB := hide (HB.out.trans (hb10.mono HB.out.size))
            clear hb10
            go_upto_region 16 with (fail)
            have lt_x_p : b7 < w10.heap.size := Blk.lt K_p.out
            have lt_x_q : b8 < w10.heap.size := Blk.lt K_q.out
            have lt_x_t : w4.heap.size < w10.heap.size := Blk.lt K_t.out
            have lt_x_u : w6.heap.size < w10.heap.size := Blk.lt K_u.out
            have lt_x_o : w7.heap.size < w10.heap.size := Blk.lt K_o.out
            replace K_p := K_p.out.alloc (.cells #[.string X0, .string X1, .string X2] 23)
            replace K_q := K_q.out.alloc (.cells #[.string X0, .string X1, .string X2] 23)
            replace K_t := K_t.out.alloc (.cells #[.string X0, .string X1, .string X2] 23)
            replace K_u := K_u.out.alloc (.cells #[.string X0, .string X1, .string X2] 23)
            replace K_o := K_o.out.alloc (.cells #[.string X0, .string X1, .string X2] 23)
            replace HB := HB.out.alloc HB.out.size (.cells #[.string X0, .string X1, .string X2] 23)
            have K_x := Blk.new w10 23 #[.string X0, .string X1, .string X2]
            generalize w10.alloc (.cells #[.string X0, .string X1, .string X2] 23) = w11 at *
            replace K_p := hide K_p
            replace K_q := hide K_q
            replace K_t := hide K_t
            replace K_u := hide K_u
            replace K_o := hide K_o
            replace K_x := hide K_x
            replace HB := hide HB
            have o0 := (Blk.cell K_o.out 0).trans (rfl : _ = some (Value.int .i64 qx))
            have o1 := (Blk.cell K_o.out 1).trans (rfl : _ = some (Value.int .i64 py))
            have o2 := (Blk.cell K_o.out 2).trans (rfl : _ = some (Value.int .i64 pz))
            have x0 := (Blk.cell K_x.out 0).trans (rfl : _ = some (Value.string X0))
            have x1 := (Blk.cell K_x.out 1).trans (rfl : _ = some (Value.string X1))
            have x2 := (Blk.cell K_x.out 2).trans (rfl : _ = some (Value.string X2))
            have SK : ∀ w', Below w11.heap.size w11 w' → Below w11.heap.size w11 w' ∧ w'.cell? ⟨w7.heap.size, 0, none⟩ = some (.int .i64 qx) ∧ w'.cell? ⟨w7.heap.size, 1, none⟩ = some (.int .i64 py) ∧ w'.cell? ⟨w7.heap.size, 2, none⟩ = some (.int .i64 pz) ∧ w'.cell? ⟨w10.heap.size, 0, none⟩ = some (.string X0) ∧ w'.cell? ⟨w10.heap.size, 1, none⟩ = some (.string X1) ∧ w'.cell? ⟨w10.heap.size, 2, none⟩ = some (.string X2) := fun w' h => ⟨h, (bcell h _ _ (block_lt_of_cell o0)).trans o0, (bcell h _ _ (block_lt_of_cell o1)).trans o1, (bcell h _ _ (block_lt_of_cell o2)).trans o2, (bcell h _ _ (block_lt_of_cell x0)).trans x0, (bcell h _ _ (block_lt_of_cell x1)).trans x1, (bcell h _ _ (block_lt_of_cell x2)).trans x2⟩
            have SS' : ∀ {R : Prop} {W : World}, Below w11.heap.size w11 W ∧ R → Std W := fun h => HS.out.below (HB.out.trans (h.1.mono HB.out.size)) (Nat.le_refl _)
            go_region_held3 (fun w' => Below w11.heap.size w11 w' ∧ w'.cell? ⟨w7.heap.size, 0, none⟩ = some (.int .i64 qx) ∧ w'.cell? ⟨w7.heap.size, 1, none⟩ = some (.int .i64 py) ∧ w'.cell? ⟨w7.heap.size, 2, none⟩ = some (.int .i64 pz) ∧ w'.cell? ⟨w10.heap.size, 0, none⟩ = some (.string X0) ∧ w'.cell? ⟨w10.heap.size, 1, none⟩ = some (.string X1) ∧ w'.cell? ⟨w10.heap.size, 2, none⟩ = some (.string X2)) (first | exact SK _ (Below.refl _ _).drew | exact SK _ (Below.refl _ _) | exact SK _ (bel_next (by assumption) (by assumption) (Nat.le_refl _)))
              (first
                | (go_at_call 25; (with_reducible refine (HX0.out _).mono ?_); rintro e wx ⟨rfl, hbW⟩)
                | (go_at_call 25; (with_reducible refine (HX1.out _).mono ?_); rintro e wx ⟨rfl, hbW⟩)
                | (go_at_call 25; (with_reducible refine (HX2.out _).mono ?_); rintro e wx ⟨rfl, hbW⟩)
                | (go_at_call 11; refine (awake40 _ (SS' (by assumption))).mono ?_; rintro e wx ⟨rfl, hbW⟩))
            obtain ⟨hbx, _⟩ : Below w11.heap.size w11 _ ∧ _ := by assumption
            have HX := hide (HB.out.trans (hbx.mono HB.out.size))
            clear hbx
            go_wp2_with fail
            go_ret
            exact ⟨rfl, HX.out⟩
          · have HD := hide (decide_eq_true hp)
            have HE := hide (decide_eq_true hq)
            have hl1 : ¬ (24 : Int) < (a.size : Int) := by omega
            have hl2 : ¬ 24 < a.size := by omega
            obtain ⟨c, hc2⟩ : ∃ c, chkR a.data.toList = c := ⟨_, rfl⟩
            rw [hc2] at hc
            have HC := hide hc2
            have hcb : (c != 0) = true := by simpa using hc
            clear hp hq hc2
            have p0 := (Blk.cell K_p.out 0).trans (rfl : _ = some (Value.int .i64 px))
            have p1 := (Blk.cell K_p.out 1).trans (rfl : _ = some (Value.int .i64 py))
            have p2 := (Blk.cell K_p.out 2).trans (rfl : _ = some (Value.int .i64 pz))
            go_wp2_with fail
            refine (rrights_any _ px py pz).mono ?_
            rw [HD.out]
            rintro e w1 ⟨rfl, hb1⟩
            clear p0 p1 p2
            replace K_p := hide (Blk.below K_p.out hb1 (Blk.lt K_p.out))
            replace K_q := hide (Blk.below K_q.out hb1 (Blk.lt K_q.out))
            replace HB := hide (HB.out.trans (hb1.mono HB.out.size))
            clear hb1
            have q0 := (Blk.cell K_q.out 0).trans (rfl : _ = some (Value.int .i64 qx))
            have q1 := (Blk.cell K_q.out 1).trans (rfl : _ = some (Value.int .i64 qy))
            have q2 := (Blk.cell K_q.out 2).trans (rfl : _ = some (Value.int .i64 qz))
            go_wp2_with fail
            refine (rrights_any _ qx qy qz).mono ?_
            rw [HE.out]
            rintro e w2 ⟨rfl, hb2⟩
            clear q0 q1 q2
            replace K_p := hide (Blk.below K_p.out hb2 (Blk.lt K_p.out))
            replace K_q := hide (Blk.below K_q.out hb2 (Blk.lt K_q.out))
            replace HB := hide (HB.out.trans (hb2.mono HB.out.size))
            clear hb2
            go_wp2_with fail
            refine (rrcheck_any _ a _ rfl (by omega)).mono ?_
            rw [HC.out]
            rintro e w3 ⟨rfl, hb3⟩
            replace K_p := hide (Blk.below K_p.out hb3 (Blk.lt K_p.out))
            replace K_q := hide (Blk.below K_q.out hb3 (Blk.lt K_q.out))
            replace HB := hide (HB.out.trans (hb3.mono HB.out.size))
            clear hb3
            go_wp2_with fail
            refine (awake40 _ (std_next HS.out HB.out)).mono ?_
            rintro e w4 ⟨rfl, hb4⟩
            replace K_p := hide (Blk.below K_p.out hb4 (Blk.lt K_p.out))
            replace K_q := hide (Blk.below K_q.out hb4 (Blk.lt K_q.out))
            replace HB := hide (HB.out.trans (hb4.mono HB.out.size))
            clear hb4
            go_wp2_with fail
            go_ret
            exact ⟨rfl, HB.out⟩
        · have HD := hide (decide_eq_true hp)
          have HE := hide (decide_eq_true hq)
          have hl1 : (24 : Int) < (a.size : Int) := by omega
          have hl2 : 24 < a.size := by omega
          clear hp hq
          have p0 := (Blk.cell K_p.out 0).trans (rfl : _ = some (Value.int .i64 px))
          have p1 := (Blk.cell K_p.out 1).trans (rfl : _ = some (Value.int .i64 py))
          have p2 := (Blk.cell K_p.out 2).trans (rfl : _ = some (Value.int .i64 pz))
          go_wp2_with fail
          refine (rrights_any _ px py pz).mono ?_
          rw [HD.out]
          rintro e w1 ⟨rfl, hb1⟩
          clear p0 p1 p2
          replace K_p := hide (Blk.below K_p.out hb1 (Blk.lt K_p.out))
          replace K_q := hide (Blk.below K_q.out hb1 (Blk.lt K_q.out))
          replace HB := hide (HB.out.trans (hb1.mono HB.out.size))
          clear hb1
          have q0 := (Blk.cell K_q.out 0).trans (rfl : _ = some (Value.int .i64 qx))
          have q1 := (Blk.cell K_q.out 1).trans (rfl : _ = some (Value.int .i64 qy))
          have q2 := (Blk.cell K_q.out 2).trans (rfl : _ = some (Value.int .i64 qz))
          go_wp2_with fail
          refine (rrights_any _ qx qy qz).mono ?_
          rw [HE.out]
          rintro e w2 ⟨rfl, hb2⟩
          clear q0 q1 q2
          replace K_p := hide (Blk.below K_p.out hb2 (Blk.lt K_p.out))
          replace K_q := hide (Blk.below K_q.out hb2 (Blk.lt K_q.out))
          replace HB := hide (HB.out.trans (hb2.mono HB.out.size))
          clear hb2
          go_wp2_with fail
          refine (awake40 _ (std_next HS.out HB.out)).mono ?_
          rintro e w3 ⟨rfl, hb3⟩
          replace K_p := hide (Blk.below K_p.out hb3 (Blk.lt K_p.out))
          replace K_q := hide (Blk.below K_q.out hb3 (Blk.lt K_q.out))
          replace HB := hide (HB.out.trans (hb3.mono HB.out.size))
          clear hb3
          go_wp2_with fail
          go_ret
          exact ⟨rfl, HB.out⟩
      · have HD := hide (decide_eq_true hp)
        have HE := hide (decide_eq_false hq)
        clear hp hq
        have p0 := (Blk.cell K_p.out 0).trans (rfl : _ = some (Value.int .i64 px))
        have p1 := (Blk.cell K_p.out 1).trans (rfl : _ = some (Value.int .i64 py))
        have p2 := (Blk.cell K_p.out 2).trans (rfl : _ = some (Value.int .i64 pz))
        go_wp2_with fail
        refine (rrights_any _ px py pz).mono ?_
        rw [HD.out]
        rintro e w1 ⟨rfl, hb1⟩
        clear p0 p1 p2
        replace K_p := hide (Blk.below K_p.out hb1 (Blk.lt K_p.out))
        replace K_q := hide (Blk.below K_q.out hb1 (Blk.lt K_q.out))
        replace HB := hide (HB.out.trans (hb1.mono HB.out.size))
        clear hb1
        have q0 := (Blk.cell K_q.out 0).trans (rfl : _ = some (Value.int .i64 qx))
        have q1 := (Blk.cell K_q.out 1).trans (rfl : _ = some (Value.int .i64 qy))
        have q2 := (Blk.cell K_q.out 2).trans (rfl : _ = some (Value.int .i64 qz))
        go_wp2_with fail
        refine (rrights_any _ qx qy qz).mono ?_
        rw [HE.out]
        rintro e w2 ⟨rfl, hb2⟩
        clear q0 q1 q2
        replace K_p := hide (Blk.below K_p.out hb2 (Blk.lt K_p.out))
        replace K_q := hide (Blk.below K_q.out hb2 (Blk.lt K_q.out))
        replace HB := hide (HB.out.trans (hb2.mono HB.out.size))
        clear hb2
        go_wp2_with fail
        refine (awake40 _ (std_next HS.out HB.out)).mono ?_
        rintro e w3 ⟨rfl, hb3⟩
        replace K_p := hide (Blk.below K_p.out hb3 (Blk.lt K_p.out))
        replace K_q := hide (Blk.below K_q.out hb3 (Blk.lt K_q.out))
        replace HB := hide (HB.out.trans (hb3.mono HB.out.size))
        clear hb3
        go_wp2_with fail
        go_ret
        exact ⟨rfl, HB.out⟩
    · have HD := hide (decide_eq_false hp)
      clear hp
      have p0 := (Blk.cell K_p.out 0).trans (rfl : _ = some (Value.int .i64 px))
      have p1 := (Blk.cell K_p.out 1).trans (rfl : _ = some (Value.int .i64 py))
      have p2 := (Blk.cell K_p.out 2).trans (rfl : _ = some (Value.int .i64 pz))
      go_wp2_with fail
      refine (rrights_any _ px py pz).mono ?_
      rw [HD.out]
      rintro e w1 ⟨rfl, hb1⟩
      clear p0 p1 p2
      replace K_p := hide (Blk.below K_p.out hb1 (Blk.lt K_p.out))
      replace K_q := hide (Blk.below K_q.out hb1 (Blk.lt K_q.out))
      replace HB := hide (HB.out.trans (hb1.mono HB.out.size))
      clear hb1
      go_wp2_with fail
      refine (awake40 _ (std_next HS.out HB.out)).mono ?_
      rintro e w2 ⟨rfl, hb2⟩
      replace K_p := hide (Blk.below K_p.out hb2 (Blk.lt K_p.out))
      replace K_q := hide (Blk.below K_q.out hb2 (Blk.lt K_q.out))
      replace HB := hide (HB.out.trans (hb2.mono HB.out.size))
      clear hb2
      go_wp2_with fail
      go_ret
      exact ⟨rfl, HB.out⟩

set_option maxRecDepth 100000 in
set_option maxHeartbeats 16000000 in
theorem turns1 (w : World) (n : Int) (px py pz qx qy qz : Int) (a : ByteArray) (h0 : 0 ≤ n) (hk : n % 3 = 1) (ha : a.size ≤ maxLen) (hs : Std w) :
    Calls Tryz.prog 5 #[.int .u8 n, .agg #[.int .i64 px, .int .i64 py, .int .i64 pz, .int .i64 qx, .int .i64 qy, .int .i64 qz], .string a] w fun e w' => e = .returned (.bool true) ∧ Below w.heap.size w w' := by
  have hb0 := allocs_below w [.cells #[.int .i64 px, .int .i64 py, .int .i64 pz, .int .i64 qx, .int .i64 qy, .int .i64 qz] 50]
  have hk0 : Blk (allocs w [.cells #[.int .i64 px, .int .i64 py, .int .i64 pz, .int .i64 qx, .int .i64 qy, .int .i64 qz] 50]) (w.heap.size + 0) 50 #[.int .i64 px, .int .i64 py, .int .i64 pz, .int .i64 qx, .int .i64 qy, .int .i64 qz] := allocs_at w [.cells #[.int .i64 px, .int .i64 py, .int .i64 pz, .int .i64 qx, .int .i64 qy, .int .i64 qz] 50] 0 rfl
  unfold allocs at hb0 hk0
  simp only [List.foldl_cons, List.foldl_nil] at hb0 hk0
  rw [Nat.add_zero] at hk0
  have HS := hide hs
  have hln : a.size < 9223372036854775808 := by unfold maxLen at ha; omega
  have hwr : IntKind.i64.wrap (n.tmod 3) = 1 := by rw [Int.tmod_eq_emod_of_nonneg h0, hk]; rfl
  clear hs ha
  go_enter Tryz.func5, Tryz.ntmps5
  go_upto_region 1 with (fail)
  generalize (w.alloc (.cells #[.int .i64 px, .int .i64 py, .int .i64 pz, .int .i64 qx, .int .i64 qy, .int .i64 qz] 50)) = w0 at *
  have HB := hide hb0
  have K0 := hide hk0
  clear hb0 hk0
  have c0 := (Blk.cell K0.out 0).trans (rfl : _ = some (Value.int .i64 px))
  have c1 := (Blk.cell K0.out 1).trans (rfl : _ = some (Value.int .i64 py))
  have c2 := (Blk.cell K0.out 2).trans (rfl : _ = some (Value.int .i64 pz))
  have c3 := (Blk.cell K0.out 3).trans (rfl : _ = some (Value.int .i64 qx))
  have c4 := (Blk.cell K0.out 4).trans (rfl : _ = some (Value.int .i64 qy))
  have c5 := (Blk.cell K0.out 5).trans (rfl : _ = some (Value.int .i64 qz))
  have SK : ∀ w', Below w0.heap.size w0 w' → Below w0.heap.size w0 w' ∧ w'.cell? ⟨w.heap.size, 0, none⟩ = some (.int .i64 px) ∧ w'.cell? ⟨w.heap.size, 1, none⟩ = some (.int .i64 py) ∧ w'.cell? ⟨w.heap.size, 2, none⟩ = some (.int .i64 pz) ∧ w'.cell? ⟨w.heap.size, 3, none⟩ = some (.int .i64 qx) ∧ w'.cell? ⟨w.heap.size, 4, none⟩ = some (.int .i64 qy) ∧ w'.cell? ⟨w.heap.size, 5, none⟩ = some (.int .i64 qz) := fun w' h => ⟨h, (bcell h _ _ (block_lt_of_cell c0)).trans c0, (bcell h _ _ (block_lt_of_cell c1)).trans c1, (bcell h _ _ (block_lt_of_cell c2)).trans c2, (bcell h _ _ (block_lt_of_cell c3)).trans c3, (bcell h _ _ (block_lt_of_cell c4)).trans c4, (bcell h _ _ (block_lt_of_cell c5)).trans c5⟩
  go_cut [7, 8, 9] (fun v7 v8 v9 wc => ∃ b7 b8, v7 = .pointer (some ⟨b7, 0, none⟩) ∧ v8 = .pointer (some ⟨b8, 0, none⟩) ∧ v9 = .int .i64 1 ∧ Blk wc b7 27 #[.int .i64 px, .int .i64 py, .int .i64 pz] ∧ Blk wc b8 27 #[.int .i64 qx, .int .i64 qy, .int .i64 qz] ∧ Below w0.heap.size w0 wc)
  case first =>
    as_aux_lemma =>
      go_region_held3 (fun w' => Below w0.heap.size w0 w' ∧ w'.cell? ⟨w.heap.size, 0, none⟩ = some (.int .i64 px) ∧ w'.cell? ⟨w.heap.size, 1, none⟩ = some (.int .i64 py) ∧ w'.cell? ⟨w.heap.size, 2, none⟩ = some (.int .i64 pz) ∧ w'.cell? ⟨w.heap.size, 3, none⟩ = some (.int .i64 qx) ∧ w'.cell? ⟨w.heap.size, 4, none⟩ = some (.int .i64 qy) ∧ w'.cell? ⟨w.heap.size, 5, none⟩ = some (.int .i64 qz)) (first | exact SK _ (Below.refl _ _).drew | exact SK _ (Below.refl _ _) | exact SK _ (nb1 _ _).drew | exact SK _ (nb1 _ _) | exact SK _ (nb2 _ _ _).drew | exact SK _ (nb2 _ _ _)) (fail)
      all_goals
        go_wp2_with fail
        go_meet
        case rel =>
          refine ⟨_, _, rfl, rfl, rfl, ?_, ?_, ?_⟩
          · first | exact (two_fst _ _ _ _ _).drew | exact (two_snd _ _ _ _ _).drew | exact two_fst _ _ _ _ _ | exact two_snd _ _ _ _ _
          · first | exact (two_fst _ _ _ _ _).drew | exact (two_snd _ _ _ _ _).drew | exact two_fst _ _ _ _ _ | exact two_snd _ _ _ _ _
          · first | exact (nb2 _ _ _).drew | exact nb2 _ _ _
  case rest =>
    obtain ⟨b7, b8, rfl, rfl, rfl, h7, h8, hbc⟩ := hcut
    have K_p := hide h7
    have K_q := hide h8
    replace HB := hide (HB.out.trans (hbc.mono HB.out.size))
    clear h7 h8 hbc hk hwr K0 SK c0 c1 c2 c3 c4 c5
    by_cases hp : Co px ∧ Co py ∧ Co pz
    · by_cases hq : Co qx ∧ Co qy ∧ Co qz
      · by_cases hl : a.size ≤ 24
        · by_cases hc : chkR a.data.toList = 0
          · have HD := hide (decide_eq_true hp)
            have HE := hide (decide_eq_true hq)
            have hl1 : ¬ (24 : Int) < (a.size : Int) := by omega
            have hl2 : ¬ 24 < a.size := by omega
            obtain ⟨T0, T1, T2, U0, U1, U2, W0, W1, W2, X0, X1, X2, hz, hA, hB, hP, hX0, hX1, hX2⟩ := turn_pack1 px py pz qx qy qz a hp hq hl hc
            have HA := hide hA
            have HBB := hide hB
            have HP := hide hP
            have HX0 := hide hX0
            have HX1 := hide hX1
            have HX2 := hide hX2
            have HC := hide hc
            have m6 : ∀ s ∈ [W0, W1, W2, X0, X1, X2], s.size ≤ maxLen := fun s h => by have := hz s h; unfold maxLen; omega
            have e1 := fun w => self_r3 W0 W1 W2 (m6 _ (by simp)) (m6 _ (by simp)) (m6 _ (by simp)) w
            have e2 := fun w => self_r3 X0 X1 X2 (m6 _ (by simp)) (m6 _ (by simp)) (m6 _ (by simp)) w
            clear hp hq hc hA hB hP hX0 hX1 hX2 hz m6
            have p0 := (Blk.cell K_p.out 0).trans (rfl : _ = some (Value.int .i64 px))
            have p1 := (Blk.cell K_p.out 1).trans (rfl : _ = some (Value.int .i64 py))
            have p2 := (Blk.cell K_p.out 2).trans (rfl : _ = some (Value.int .i64 pz))
            go_wp2_with fail
            refine (rrights_any _ px py pz).mono ?_
            rw [HD.out]
            rintro e w1 ⟨rfl, hb1⟩
            clear p0 p1 p2
            replace K_p := hide (Blk.below K_p.out hb1 (Blk.lt K_p.out))
            replace K_q := hide (Blk.below K_q.out hb1 (Blk.lt K_q.out))
            replace HB := hide (HB.out.trans (hb1.mono HB.out.size))
            clear hb1
            have q0 := (Blk.cell K_q.out 0).trans (rfl : _ = some (Value.int .i64 qx))
            have q1 := (Blk.cell K_q.out 1).trans (rfl : _ = some (Value.int .i64 qy))
            have q2 := (Blk.cell K_q.out 2).trans (rfl : _ = some (Value.int .i64 qz))
            go_wp2_with fail
            refine (rrights_any _ qx qy qz).mono ?_
            rw [HE.out]
            rintro e w2 ⟨rfl, hb2⟩
            clear q0 q1 q2
            replace K_p := hide (Blk.below K_p.out hb2 (Blk.lt K_p.out))
            replace K_q := hide (Blk.below K_q.out hb2 (Blk.lt K_q.out))
            replace HB := hide (HB.out.trans (hb2.mono HB.out.size))
            clear hb2
            go_wp2_with fail
            refine (rrcheck_any _ a _ rfl (by omega)).mono ?_
            rw [HC.out]
            rintro e w3 ⟨rfl, hb3⟩
            replace K_p := hide (Blk.below K_p.out hb3 (Blk.lt K_p.out))
            replace K_q := hide (Blk.below K_q.out hb3 (Blk.lt K_q.out))
            replace HB := hide (HB.out.trans (hb3.mono HB.out.size))
            clear hb3
            have p0 := (Blk.cell K_p.out 0).trans (rfl : _ = some (Value.int .i64 px))
            have p1 := (Blk.cell K_p.out 1).trans (rfl : _ = some (Value.int .i64 py))
            have p2 := (Blk.cell K_p.out 2).trans (rfl : _ = some (Value.int .i64 pz))
            go_wp2_with fail
            refine (HA.out _ (std_next HS.out HB.out)).mono ?_
            rintro e w4 ⟨rfl, hb4⟩
            clear p0 p1 p2
            replace K_p := hide (Blk.below K_p.out hb4 (Blk.lt K_p.out))
            replace K_q := hide (Blk.below K_q.out hb4 (Blk.lt K_q.out))
            replace HB := hide (HB.out.trans (hb4.mono HB.out.size))
            clear hb4
            go_upto_region 5 with (fail)
            have lt_t_p : b7 < w4.heap.size := Blk.lt K_p.out
            have lt_t_q : b8 < w4.heap.size := Blk.lt K_q.out
            replace K_p := K_p.out.alloc (.cells #[.string T0, .string T1, .string T2, .string W0, .string W1, .string W2] 25)
            replace K_q := K_q.out.alloc (.cells #[.string T0, .string T1, .string T2, .string W0, .string W1, .string W2] 25)
            replace HB := HB.out.alloc HB.out.size (.cells #[.string T0, .string T1, .string T2, .string W0, .string W1, .string W2] 25)
            have K_t := Blk.new w4 25 #[.string T0, .string T1, .string T2, .string W0, .string W1, .string W2]
            generalize w4.alloc (.cells #[.string T0, .string T1, .string T2, .string W0, .string W1, .string W2] 25) = w5 at *
            replace K_p := hide K_p
            replace K_q := hide K_q
            replace K_t := hide K_t
            replace HB := hide HB
            have q0 := (Blk.cell K_q.out 0).trans (rfl : _ = some (Value.int .i64 qx))
            have q1 := (Blk.cell K_q.out 1).trans (rfl : _ = some (Value.int .i64 qy))
            have q2 := (Blk.cell K_q.out 2).trans (rfl : _ = some (Value.int .i64 qz))
            go_wp2_with fail
            refine (HBB.out _ (std_next HS.out HB.out)).mono ?_
            rintro e w6 ⟨rfl, hb6⟩
            clear q0 q1 q2
            replace K_p := hide (Blk.below K_p.out hb6 (Blk.lt K_p.out))
            replace K_q := hide (Blk.below K_q.out hb6 (Blk.lt K_q.out))
            replace K_t := hide (Blk.below K_t.out hb6 (Blk.lt K_t.out))
            replace HB := hide (HB.out.trans (hb6.mono HB.out.size))
            clear hb6
            go_upto_region 6 with (fail)
            have lt_u_p : b7 < w6.heap.size := Blk.lt K_p.out
            have lt_u_q : b8 < w6.heap.size := Blk.lt K_q.out
            have lt_u_t : w4.heap.size < w6.heap.size := Blk.lt K_t.out
            replace K_p := K_p.out.alloc (.cells #[.string U0, .string U1, .string U2, .string W0, .string W1, .string W2] 25)
            replace K_q := K_q.out.alloc (.cells #[.string U0, .string U1, .string U2, .string W0, .string W1, .string W2] 25)
            replace K_t := K_t.out.alloc (.cells #[.string U0, .string U1, .string U2, .string W0, .string W1, .string W2] 25)
            replace HB := HB.out.alloc HB.out.size (.cells #[.string U0, .string U1, .string U2, .string W0, .string W1, .string W2] 25)
            have K_u := Blk.new w6 25 #[.string U0, .string U1, .string U2, .string W0, .string W1, .string W2]
            generalize w6.alloc (.cells #[.string U0, .string U1, .string U2, .string W0, .string W1, .string W2] 25) = w7 at *
            replace K_p := hide K_p
            replace K_q := hide K_q
            replace K_t := hide K_t
            replace K_u := hide K_u
            replace HB := hide HB
            have HW7 := hide HB.out.size
            have t0 := (Blk.cell K_t.out 0).trans (rfl : _ = some (Value.string T0))
            have t1 := (Blk.cell K_t.out 1).trans (rfl : _ = some (Value.string T1))
            have t2 := (Blk.cell K_t.out 2).trans (rfl : _ = some (Value.string T2))
            have t3 := (Blk.cell K_t.out 3).trans (rfl : _ = some (Value.string W0))
            have t4 := (Blk.cell K_t.out 4).trans (rfl : _ = some (Value.string W1))
            have t5 := (Blk.cell K_t.out 5).trans (rfl : _ = some (Value.string W2))
            have u0 := (Blk.cell K_u.out 0).trans (rfl : _ = some (Value.string U0))
            have u1 := (Blk.cell K_u.out 1).trans (rfl : _ = some (Value.string U1))
            have u2 := (Blk.cell K_u.out 2).trans (rfl : _ = some (Value.string U2))
            have u3 := (Blk.cell K_u.out 3).trans (rfl : _ = some (Value.string W0))
            have u4 := (Blk.cell K_u.out 4).trans (rfl : _ = some (Value.string W1))
            have u5 := (Blk.cell K_u.out 5).trans (rfl : _ = some (Value.string W2))
            have p0 := (Blk.cell K_p.out 0).trans (rfl : _ = some (Value.int .i64 px))
            have p1 := (Blk.cell K_p.out 1).trans (rfl : _ = some (Value.int .i64 py))
            have p2 := (Blk.cell K_p.out 2).trans (rfl : _ = some (Value.int .i64 pz))
            go_upto_region 9 with (fail)
            clear t0 t1 t2 t3 t4 t5 u0 u1 u2 u3 u4 u5 p0 p1 p2
            have lt_o_p : b7 < w7.heap.size := Blk.lt K_p.out
            have lt_o_q : b8 < w7.heap.size := Blk.lt K_q.out
            have lt_o_t : w4.heap.size < w7.heap.size := Blk.lt K_t.out
            have lt_o_u : w6.heap.size < w7.heap.size := Blk.lt K_u.out
            replace K_p := K_p.out.alloc (.cells #[.int .i64 px, .int .i64 py, .int .i64 pz] 27)
            replace K_q := K_q.out.alloc (.cells #[.int .i64 px, .int .i64 py, .int .i64 pz] 27)
            replace K_t := K_t.out.alloc (.cells #[.int .i64 px, .int .i64 py, .int .i64 pz] 27)
            replace K_u := K_u.out.alloc (.cells #[.int .i64 px, .int .i64 py, .int .i64 pz] 27)
            replace HB := HB.out.alloc HB.out.size (.cells #[.int .i64 px, .int .i64 py, .int .i64 pz] 27)
            have K_o := Blk.new w7 27 #[.int .i64 px, .int .i64 py, .int .i64 pz]
            generalize w7.alloc (.cells #[.int .i64 px, .int .i64 py, .int .i64 pz] 27) = w8 at *
            replace K_p := hide K_p
            replace K_q := hide K_q
            replace K_t := hide K_t
            replace K_u := hide K_u
            replace K_o := hide K_o
            replace HB := hide HB
            have q0 := (Blk.cell K_q.out 0).trans (rfl : _ = some (Value.int .i64 qx))
            have q1 := (Blk.cell K_q.out 1).trans (rfl : _ = some (Value.int .i64 qy))
            have q2 := (Blk.cell K_q.out 2).trans (rfl : _ = some (Value.int .i64 qz))
            have o0 := (Blk.cell K_o.out 0).trans (rfl : _ = some (Value.int .i64 px))
            have of0 := Blk.frozen K_o.out 0
            have o1 := (Blk.cell K_o.out 1).trans (rfl : _ = some (Value.int .i64 py))
            have of1 := Blk.frozen K_o.out 1
            have o2 := (Blk.cell K_o.out 2).trans (rfl : _ = some (Value.int .i64 pz))
            have of2 := Blk.frozen K_o.out 2
            have hwb : w.heap.size ≤ w7.heap.size := HW7.out
            go_upto_region 15 with (fail)
            clear q0 q1 q2 o0 of0 o1 of1 o2 of2
            replace K_p := K_p.out.far (p := ⟨w7.heap.size, 1, none⟩) (by show b7 ≠ w7.heap.size; omega) (.int .i64 qy)
            replace K_q := K_q.out.far (p := ⟨w7.heap.size, 1, none⟩) (by show b8 ≠ w7.heap.size; omega) (.int .i64 qy)
            replace K_t := K_t.out.far (p := ⟨w7.heap.size, 1, none⟩) (by show w4.heap.size ≠ w7.heap.size; omega) (.int .i64 qy)
            replace K_u := K_u.out.far (p := ⟨w7.heap.size, 1, none⟩) (by show w6.heap.size ≠ w7.heap.size; omega) (.int .i64 qy)
            replace K_o : Blk (w8.setCell ⟨w7.heap.size, 1, none⟩ (.int .i64 qy)) w7.heap.size 27 #[.int .i64 px, .int .i64 qy, .int .i64 pz] := K_o.out.set_ 1 (.int .i64 qy)
            replace HB := HB.out.setCell (p := ⟨w7.heap.size, 1, none⟩) (by show w.heap.size ≤ w7.heap.size; omega) (.int .i64 qy)
            generalize w8.setCell ⟨w7.heap.size, 1, none⟩ (.int .i64 qy) = w9 at *
            replace K_p := hide K_p
            replace K_q := hide K_q
            replace K_t := hide K_t
            replace K_u := hide K_u
            replace K_o := hide K_o
            replace HB := hide HB
            have t0 := (Blk.cell K_t.out 0).trans (rfl : _ = some (Value.string T0))
            have t1 := (Blk.cell K_t.out 1).trans (rfl : _ = some (Value.string T1))
            have t2 := (Blk.cell K_t.out 2).trans (rfl : _ = some (Value.string T2))
            have t3 := (Blk.cell K_t.out 3).trans (rfl : _ = some (Value.string W0))
            have t4 := (Blk.cell K_t.out 4).trans (rfl : _ = some (Value.string W1))
            have t5 := (Blk.cell K_t.out 5).trans (rfl : _ = some (Value.string W2))
            have o0 := (Blk.cell K_o.out 0).trans (rfl : _ = some (Value.int .i64 px))
            have o1 := (Blk.cell K_o.out 1).trans (rfl : _ = some (Value.int .i64 qy))
            have o2 := (Blk.cell K_o.out 2).trans (rfl : _ = some (Value.int .i64 pz))
            go_wp2_with fail
            refine (HP.out _ (std_next HS.out HB.out)).mono ?_
            rintro e w10 ⟨rfl, hb10⟩
            clear t0 t1 t2 t3 t4 t5 o0 o1 o2
            replace K_p := hide (Blk.below K_p.out hb10 (Blk.lt K_p.out))
            replace K_q := hide (Blk.below K_q.out hb10 (Blk.lt K_q.out))
            replace K_t := hide (Blk.below K_t.out hb10 (Blk.lt K_t.out))
            replace K_u := hide (Blk.below K_u.out hb10 (Blk.lt K_u.out))
            replace K_o := hide (Blk.below K_o.out hb10 (Blk.lt K_o.out))
            replace HB := hide (HB.out.trans (hb10.mono HB.out.size))
            clear hb10
            go_upto_region 16 with (fail)
            have lt_x_p : b7 < w10.heap.size := Blk.lt K_p.out
            have lt_x_q : b8 < w10.heap.size := Blk.lt K_q.out
            have lt_x_t : w4.heap.size < w10.heap.size := Blk.lt K_t.out
            have lt_x_u : w6.heap.size < w10.heap.size := Blk.lt K_u.out
            have lt_x_o : w7.heap.size < w10.heap.size := Blk.lt K_o.out
            replace K_p := K_p.out.alloc (.cells #[.string X0, .string X1, .string X2] 23)
            replace K_q := K_q.out.alloc (.cells #[.string X0, .string X1, .string X2] 23)
            replace K_t := K_t.out.alloc (.cells #[.string X0, .string X1, .string X2] 23)
            replace K_u := K_u.out.alloc (.cells #[.string X0, .string X1, .string X2] 23)
            replace K_o := K_o.out.alloc (.cells #[.string X0, .string X1, .string X2] 23)
            replace HB := HB.out.alloc HB.out.size (.cells #[.string X0, .string X1, .string X2] 23)
            have K_x := Blk.new w10 23 #[.string X0, .string X1, .string X2]
            generalize w10.alloc (.cells #[.string X0, .string X1, .string X2] 23) = w11 at *
            replace K_p := hide K_p
            replace K_q := hide K_q
            replace K_t := hide K_t
            replace K_u := hide K_u
            replace K_o := hide K_o
            replace K_x := hide K_x
            replace HB := hide HB
            have o0 := (Blk.cell K_o.out 0).trans (rfl : _ = some (Value.int .i64 px))
            have o1 := (Blk.cell K_o.out 1).trans (rfl : _ = some (Value.int .i64 qy))
            have o2 := (Blk.cell K_o.out 2).trans (rfl : _ = some (Value.int .i64 pz))
            have x0 := (Blk.cell K_x.out 0).trans (rfl : _ = some (Value.string X0))
            have x1 := (Blk.cell K_x.out 1).trans (rfl : _ = some (Value.string X1))
            have x2 := (Blk.cell K_x.out 2).trans (rfl : _ = some (Value.string X2))
            have SK : ∀ w', Below w11.heap.size w11 w' → Below w11.heap.size w11 w' ∧ w'.cell? ⟨w7.heap.size, 0, none⟩ = some (.int .i64 px) ∧ w'.cell? ⟨w7.heap.size, 1, none⟩ = some (.int .i64 qy) ∧ w'.cell? ⟨w7.heap.size, 2, none⟩ = some (.int .i64 pz) ∧ w'.cell? ⟨w10.heap.size, 0, none⟩ = some (.string X0) ∧ w'.cell? ⟨w10.heap.size, 1, none⟩ = some (.string X1) ∧ w'.cell? ⟨w10.heap.size, 2, none⟩ = some (.string X2) := fun w' h => ⟨h, (bcell h _ _ (block_lt_of_cell o0)).trans o0, (bcell h _ _ (block_lt_of_cell o1)).trans o1, (bcell h _ _ (block_lt_of_cell o2)).trans o2, (bcell h _ _ (block_lt_of_cell x0)).trans x0, (bcell h _ _ (block_lt_of_cell x1)).trans x1, (bcell h _ _ (block_lt_of_cell x2)).trans x2⟩
            have SS' : ∀ {R : Prop} {W : World}, Below w11.heap.size w11 W ∧ R → Std W := fun h => HS.out.below (HB.out.trans (h.1.mono HB.out.size)) (Nat.le_refl _)
            go_region_held3 (fun w' => Below w11.heap.size w11 w' ∧ w'.cell? ⟨w7.heap.size, 0, none⟩ = some (.int .i64 px) ∧ w'.cell? ⟨w7.heap.size, 1, none⟩ = some (.int .i64 qy) ∧ w'.cell? ⟨w7.heap.size, 2, none⟩ = some (.int .i64 pz) ∧ w'.cell? ⟨w10.heap.size, 0, none⟩ = some (.string X0) ∧ w'.cell? ⟨w10.heap.size, 1, none⟩ = some (.string X1) ∧ w'.cell? ⟨w10.heap.size, 2, none⟩ = some (.string X2)) (first | exact SK _ (Below.refl _ _).drew | exact SK _ (Below.refl _ _) | exact SK _ (bel_next (by assumption) (by assumption) (Nat.le_refl _)))
              (first
                | (go_at_call 25; (with_reducible refine (HX0.out _).mono ?_); rintro e wx ⟨rfl, hbW⟩)
                | (go_at_call 25; (with_reducible refine (HX1.out _).mono ?_); rintro e wx ⟨rfl, hbW⟩)
                | (go_at_call 25; (with_reducible refine (HX2.out _).mono ?_); rintro e wx ⟨rfl, hbW⟩)
                | (go_at_call 11; refine (awake40 _ (SS' (by assumption))).mono ?_; rintro e wx ⟨rfl, hbW⟩))
            obtain ⟨hbx, _⟩ : Below w11.heap.size w11 _ ∧ _ := by assumption
            have HX := hide (HB.out.trans (hbx.mono HB.out.size))
            clear hbx
            go_wp2_with fail
            go_ret
            exact ⟨rfl, HX.out⟩
          · have HD := hide (decide_eq_true hp)
            have HE := hide (decide_eq_true hq)
            have hl1 : ¬ (24 : Int) < (a.size : Int) := by omega
            have hl2 : ¬ 24 < a.size := by omega
            obtain ⟨c, hc2⟩ : ∃ c, chkR a.data.toList = c := ⟨_, rfl⟩
            rw [hc2] at hc
            have HC := hide hc2
            have hcb : (c != 0) = true := by simpa using hc
            clear hp hq hc2
            have p0 := (Blk.cell K_p.out 0).trans (rfl : _ = some (Value.int .i64 px))
            have p1 := (Blk.cell K_p.out 1).trans (rfl : _ = some (Value.int .i64 py))
            have p2 := (Blk.cell K_p.out 2).trans (rfl : _ = some (Value.int .i64 pz))
            go_wp2_with fail
            refine (rrights_any _ px py pz).mono ?_
            rw [HD.out]
            rintro e w1 ⟨rfl, hb1⟩
            clear p0 p1 p2
            replace K_p := hide (Blk.below K_p.out hb1 (Blk.lt K_p.out))
            replace K_q := hide (Blk.below K_q.out hb1 (Blk.lt K_q.out))
            replace HB := hide (HB.out.trans (hb1.mono HB.out.size))
            clear hb1
            have q0 := (Blk.cell K_q.out 0).trans (rfl : _ = some (Value.int .i64 qx))
            have q1 := (Blk.cell K_q.out 1).trans (rfl : _ = some (Value.int .i64 qy))
            have q2 := (Blk.cell K_q.out 2).trans (rfl : _ = some (Value.int .i64 qz))
            go_wp2_with fail
            refine (rrights_any _ qx qy qz).mono ?_
            rw [HE.out]
            rintro e w2 ⟨rfl, hb2⟩
            clear q0 q1 q2
            replace K_p := hide (Blk.below K_p.out hb2 (Blk.lt K_p.out))
            replace K_q := hide (Blk.below K_q.out hb2 (Blk.lt K_q.out))
            replace HB := hide (HB.out.trans (hb2.mono HB.out.size))
            clear hb2
            go_wp2_with fail
            refine (rrcheck_any _ a _ rfl (by omega)).mono ?_
            rw [HC.out]
            rintro e w3 ⟨rfl, hb3⟩
            replace K_p := hide (Blk.below K_p.out hb3 (Blk.lt K_p.out))
            replace K_q := hide (Blk.below K_q.out hb3 (Blk.lt K_q.out))
            replace HB := hide (HB.out.trans (hb3.mono HB.out.size))
            clear hb3
            go_wp2_with fail
            refine (awake40 _ (std_next HS.out HB.out)).mono ?_
            rintro e w4 ⟨rfl, hb4⟩
            replace K_p := hide (Blk.below K_p.out hb4 (Blk.lt K_p.out))
            replace K_q := hide (Blk.below K_q.out hb4 (Blk.lt K_q.out))
            replace HB := hide (HB.out.trans (hb4.mono HB.out.size))
            clear hb4
            go_wp2_with fail
            go_ret
            exact ⟨rfl, HB.out⟩
        · have HD := hide (decide_eq_true hp)
          have HE := hide (decide_eq_true hq)
          have hl1 : (24 : Int) < (a.size : Int) := by omega
          have hl2 : 24 < a.size := by omega
          clear hp hq
          have p0 := (Blk.cell K_p.out 0).trans (rfl : _ = some (Value.int .i64 px))
          have p1 := (Blk.cell K_p.out 1).trans (rfl : _ = some (Value.int .i64 py))
          have p2 := (Blk.cell K_p.out 2).trans (rfl : _ = some (Value.int .i64 pz))
          go_wp2_with fail
          refine (rrights_any _ px py pz).mono ?_
          rw [HD.out]
          rintro e w1 ⟨rfl, hb1⟩
          clear p0 p1 p2
          replace K_p := hide (Blk.below K_p.out hb1 (Blk.lt K_p.out))
          replace K_q := hide (Blk.below K_q.out hb1 (Blk.lt K_q.out))
          replace HB := hide (HB.out.trans (hb1.mono HB.out.size))
          clear hb1
          have q0 := (Blk.cell K_q.out 0).trans (rfl : _ = some (Value.int .i64 qx))
          have q1 := (Blk.cell K_q.out 1).trans (rfl : _ = some (Value.int .i64 qy))
          have q2 := (Blk.cell K_q.out 2).trans (rfl : _ = some (Value.int .i64 qz))
          go_wp2_with fail
          refine (rrights_any _ qx qy qz).mono ?_
          rw [HE.out]
          rintro e w2 ⟨rfl, hb2⟩
          clear q0 q1 q2
          replace K_p := hide (Blk.below K_p.out hb2 (Blk.lt K_p.out))
          replace K_q := hide (Blk.below K_q.out hb2 (Blk.lt K_q.out))
          replace HB := hide (HB.out.trans (hb2.mono HB.out.size))
          clear hb2
          go_wp2_with fail
          refine (awake40 _ (std_next HS.out HB.out)).mono ?_
          rintro e w3 ⟨rfl, hb3⟩
          replace K_p := hide (Blk.below K_p.out hb3 (Blk.lt K_p.out))
          replace K_q := hide (Blk.below K_q.out hb3 (Blk.lt K_q.out))
          replace HB := hide (HB.out.trans (hb3.mono HB.out.size))
          clear hb3
          go_wp2_with fail
          go_ret
          exact ⟨rfl, HB.out⟩
      · have HD := hide (decide_eq_true hp)
        have HE := hide (decide_eq_false hq)
        clear hp hq
        have p0 := (Blk.cell K_p.out 0).trans (rfl : _ = some (Value.int .i64 px))
        have p1 := (Blk.cell K_p.out 1).trans (rfl : _ = some (Value.int .i64 py))
        have p2 := (Blk.cell K_p.out 2).trans (rfl : _ = some (Value.int .i64 pz))
        go_wp2_with fail
        refine (rrights_any _ px py pz).mono ?_
        rw [HD.out]
        rintro e w1 ⟨rfl, hb1⟩
        clear p0 p1 p2
        replace K_p := hide (Blk.below K_p.out hb1 (Blk.lt K_p.out))
        replace K_q := hide (Blk.below K_q.out hb1 (Blk.lt K_q.out))
        replace HB := hide (HB.out.trans (hb1.mono HB.out.size))
        clear hb1
        have q0 := (Blk.cell K_q.out 0).trans (rfl : _ = some (Value.int .i64 qx))
        have q1 := (Blk.cell K_q.out 1).trans (rfl : _ = some (Value.int .i64 qy))
        have q2 := (Blk.cell K_q.out 2).trans (rfl : _ = some (Value.int .i64 qz))
        go_wp2_with fail
        refine (rrights_any _ qx qy qz).mono ?_
        rw [HE.out]
        rintro e w2 ⟨rfl, hb2⟩
        clear q0 q1 q2
        replace K_p := hide (Blk.below K_p.out hb2 (Blk.lt K_p.out))
        replace K_q := hide (Blk.below K_q.out hb2 (Blk.lt K_q.out))
        replace HB := hide (HB.out.trans (hb2.mono HB.out.size))
        clear hb2
        go_wp2_with fail
        refine (awake40 _ (std_next HS.out HB.out)).mono ?_
        rintro e w3 ⟨rfl, hb3⟩
        replace K_p := hide (Blk.below K_p.out hb3 (Blk.lt K_p.out))
        replace K_q := hide (Blk.below K_q.out hb3 (Blk.lt K_q.out))
        replace HB := hide (HB.out.trans (hb3.mono HB.out.size))
        clear hb3
        go_wp2_with fail
        go_ret
        exact ⟨rfl, HB.out⟩
    · have HD := hide (decide_eq_false hp)
      clear hp
      have p0 := (Blk.cell K_p.out 0).trans (rfl : _ = some (Value.int .i64 px))
      have p1 := (Blk.cell K_p.out 1).trans (rfl : _ = some (Value.int .i64 py))
      have p2 := (Blk.cell K_p.out 2).trans (rfl : _ = some (Value.int .i64 pz))
      go_wp2_with fail
      refine (rrights_any _ px py pz).mono ?_
      rw [HD.out]
      rintro e w1 ⟨rfl, hb1⟩
      clear p0 p1 p2
      replace K_p := hide (Blk.below K_p.out hb1 (Blk.lt K_p.out))
      replace K_q := hide (Blk.below K_q.out hb1 (Blk.lt K_q.out))
      replace HB := hide (HB.out.trans (hb1.mono HB.out.size))
      clear hb1
      go_wp2_with fail
      refine (awake40 _ (std_next HS.out HB.out)).mono ?_
      rintro e w2 ⟨rfl, hb2⟩
      replace K_p := hide (Blk.below K_p.out hb2 (Blk.lt K_p.out))
      replace K_q := hide (Blk.below K_q.out hb2 (Blk.lt K_q.out))
      replace HB := hide (HB.out.trans (hb2.mono HB.out.size))
      clear hb2
      go_wp2_with fail
      go_ret
      exact ⟨rfl, HB.out⟩

set_option maxRecDepth 100000 in
set_option maxHeartbeats 16000000 in
theorem turns2 (w : World) (n : Int) (px py pz qx qy qz : Int) (a : ByteArray) (h0 : 0 ≤ n) (hk : n % 3 = 2) (ha : a.size ≤ maxLen) (hs : Std w) :
    Calls Tryz.prog 5 #[.int .u8 n, .agg #[.int .i64 px, .int .i64 py, .int .i64 pz, .int .i64 qx, .int .i64 qy, .int .i64 qz], .string a] w fun e w' => e = .returned (.bool true) ∧ Below w.heap.size w w' := by
  have hb0 := allocs_below w [.cells #[.int .i64 px, .int .i64 py, .int .i64 pz, .int .i64 qx, .int .i64 qy, .int .i64 qz] 50]
  have hk0 : Blk (allocs w [.cells #[.int .i64 px, .int .i64 py, .int .i64 pz, .int .i64 qx, .int .i64 qy, .int .i64 qz] 50]) (w.heap.size + 0) 50 #[.int .i64 px, .int .i64 py, .int .i64 pz, .int .i64 qx, .int .i64 qy, .int .i64 qz] := allocs_at w [.cells #[.int .i64 px, .int .i64 py, .int .i64 pz, .int .i64 qx, .int .i64 qy, .int .i64 qz] 50] 0 rfl
  unfold allocs at hb0 hk0
  simp only [List.foldl_cons, List.foldl_nil] at hb0 hk0
  rw [Nat.add_zero] at hk0
  have HS := hide hs
  have hln : a.size < 9223372036854775808 := by unfold maxLen at ha; omega
  have hwr : IntKind.i64.wrap (n.tmod 3) = 2 := by rw [Int.tmod_eq_emod_of_nonneg h0, hk]; rfl
  clear hs ha
  go_enter Tryz.func5, Tryz.ntmps5
  go_upto_region 1 with (fail)
  generalize (w.alloc (.cells #[.int .i64 px, .int .i64 py, .int .i64 pz, .int .i64 qx, .int .i64 qy, .int .i64 qz] 50)) = w0 at *
  have HB := hide hb0
  have K0 := hide hk0
  clear hb0 hk0
  have c0 := (Blk.cell K0.out 0).trans (rfl : _ = some (Value.int .i64 px))
  have c1 := (Blk.cell K0.out 1).trans (rfl : _ = some (Value.int .i64 py))
  have c2 := (Blk.cell K0.out 2).trans (rfl : _ = some (Value.int .i64 pz))
  have c3 := (Blk.cell K0.out 3).trans (rfl : _ = some (Value.int .i64 qx))
  have c4 := (Blk.cell K0.out 4).trans (rfl : _ = some (Value.int .i64 qy))
  have c5 := (Blk.cell K0.out 5).trans (rfl : _ = some (Value.int .i64 qz))
  have SK : ∀ w', Below w0.heap.size w0 w' → Below w0.heap.size w0 w' ∧ w'.cell? ⟨w.heap.size, 0, none⟩ = some (.int .i64 px) ∧ w'.cell? ⟨w.heap.size, 1, none⟩ = some (.int .i64 py) ∧ w'.cell? ⟨w.heap.size, 2, none⟩ = some (.int .i64 pz) ∧ w'.cell? ⟨w.heap.size, 3, none⟩ = some (.int .i64 qx) ∧ w'.cell? ⟨w.heap.size, 4, none⟩ = some (.int .i64 qy) ∧ w'.cell? ⟨w.heap.size, 5, none⟩ = some (.int .i64 qz) := fun w' h => ⟨h, (bcell h _ _ (block_lt_of_cell c0)).trans c0, (bcell h _ _ (block_lt_of_cell c1)).trans c1, (bcell h _ _ (block_lt_of_cell c2)).trans c2, (bcell h _ _ (block_lt_of_cell c3)).trans c3, (bcell h _ _ (block_lt_of_cell c4)).trans c4, (bcell h _ _ (block_lt_of_cell c5)).trans c5⟩
  go_cut [7, 8, 9] (fun v7 v8 v9 wc => ∃ b7 b8, v7 = .pointer (some ⟨b7, 0, none⟩) ∧ v8 = .pointer (some ⟨b8, 0, none⟩) ∧ v9 = .int .i64 2 ∧ Blk wc b7 27 #[.int .i64 px, .int .i64 py, .int .i64 pz] ∧ Blk wc b8 27 #[.int .i64 qx, .int .i64 qy, .int .i64 qz] ∧ Below w0.heap.size w0 wc)
  case first =>
    as_aux_lemma =>
      go_region_held3 (fun w' => Below w0.heap.size w0 w' ∧ w'.cell? ⟨w.heap.size, 0, none⟩ = some (.int .i64 px) ∧ w'.cell? ⟨w.heap.size, 1, none⟩ = some (.int .i64 py) ∧ w'.cell? ⟨w.heap.size, 2, none⟩ = some (.int .i64 pz) ∧ w'.cell? ⟨w.heap.size, 3, none⟩ = some (.int .i64 qx) ∧ w'.cell? ⟨w.heap.size, 4, none⟩ = some (.int .i64 qy) ∧ w'.cell? ⟨w.heap.size, 5, none⟩ = some (.int .i64 qz)) (first | exact SK _ (Below.refl _ _).drew | exact SK _ (Below.refl _ _) | exact SK _ (nb1 _ _).drew | exact SK _ (nb1 _ _) | exact SK _ (nb2 _ _ _).drew | exact SK _ (nb2 _ _ _)) (fail)
      all_goals
        go_wp2_with fail
        go_meet
        case rel =>
          refine ⟨_, _, rfl, rfl, rfl, ?_, ?_, ?_⟩
          · first | exact (two_fst _ _ _ _ _).drew | exact (two_snd _ _ _ _ _).drew | exact two_fst _ _ _ _ _ | exact two_snd _ _ _ _ _
          · first | exact (two_fst _ _ _ _ _).drew | exact (two_snd _ _ _ _ _).drew | exact two_fst _ _ _ _ _ | exact two_snd _ _ _ _ _
          · first | exact (nb2 _ _ _).drew | exact nb2 _ _ _
  case rest =>
    obtain ⟨b7, b8, rfl, rfl, rfl, h7, h8, hbc⟩ := hcut
    have K_p := hide h7
    have K_q := hide h8
    replace HB := hide (HB.out.trans (hbc.mono HB.out.size))
    clear h7 h8 hbc hk hwr K0 SK c0 c1 c2 c3 c4 c5
    by_cases hp : Co px ∧ Co py ∧ Co pz
    · by_cases hq : Co qx ∧ Co qy ∧ Co qz
      · by_cases hl : a.size ≤ 24
        · by_cases hc : chkR a.data.toList = 0
          · have HD := hide (decide_eq_true hp)
            have HE := hide (decide_eq_true hq)
            have hl1 : ¬ (24 : Int) < (a.size : Int) := by omega
            have hl2 : ¬ 24 < a.size := by omega
            obtain ⟨T0, T1, T2, U0, U1, U2, W0, W1, W2, X0, X1, X2, hz, hA, hB, hP, hX0, hX1, hX2⟩ := turn_pack2 px py pz qx qy qz a hp hq hl hc
            have HA := hide hA
            have HBB := hide hB
            have HP := hide hP
            have HX0 := hide hX0
            have HX1 := hide hX1
            have HX2 := hide hX2
            have HC := hide hc
            have m6 : ∀ s ∈ [W0, W1, W2, X0, X1, X2], s.size ≤ maxLen := fun s h => by have := hz s h; unfold maxLen; omega
            have e1 := fun w => self_r3 W0 W1 W2 (m6 _ (by simp)) (m6 _ (by simp)) (m6 _ (by simp)) w
            have e2 := fun w => self_r3 X0 X1 X2 (m6 _ (by simp)) (m6 _ (by simp)) (m6 _ (by simp)) w
            clear hp hq hc hA hB hP hX0 hX1 hX2 hz m6
            have p0 := (Blk.cell K_p.out 0).trans (rfl : _ = some (Value.int .i64 px))
            have p1 := (Blk.cell K_p.out 1).trans (rfl : _ = some (Value.int .i64 py))
            have p2 := (Blk.cell K_p.out 2).trans (rfl : _ = some (Value.int .i64 pz))
            go_wp2_with fail
            refine (rrights_any _ px py pz).mono ?_
            rw [HD.out]
            rintro e w1 ⟨rfl, hb1⟩
            clear p0 p1 p2
            replace K_p := hide (Blk.below K_p.out hb1 (Blk.lt K_p.out))
            replace K_q := hide (Blk.below K_q.out hb1 (Blk.lt K_q.out))
            replace HB := hide (HB.out.trans (hb1.mono HB.out.size))
            clear hb1
            have q0 := (Blk.cell K_q.out 0).trans (rfl : _ = some (Value.int .i64 qx))
            have q1 := (Blk.cell K_q.out 1).trans (rfl : _ = some (Value.int .i64 qy))
            have q2 := (Blk.cell K_q.out 2).trans (rfl : _ = some (Value.int .i64 qz))
            go_wp2_with fail
            refine (rrights_any _ qx qy qz).mono ?_
            rw [HE.out]
            rintro e w2 ⟨rfl, hb2⟩
            clear q0 q1 q2
            replace K_p := hide (Blk.below K_p.out hb2 (Blk.lt K_p.out))
            replace K_q := hide (Blk.below K_q.out hb2 (Blk.lt K_q.out))
            replace HB := hide (HB.out.trans (hb2.mono HB.out.size))
            clear hb2
            go_wp2_with fail
            refine (rrcheck_any _ a _ rfl (by omega)).mono ?_
            rw [HC.out]
            rintro e w3 ⟨rfl, hb3⟩
            replace K_p := hide (Blk.below K_p.out hb3 (Blk.lt K_p.out))
            replace K_q := hide (Blk.below K_q.out hb3 (Blk.lt K_q.out))
            replace HB := hide (HB.out.trans (hb3.mono HB.out.size))
            clear hb3
            have p0 := (Blk.cell K_p.out 0).trans (rfl : _ = some (Value.int .i64 px))
            have p1 := (Blk.cell K_p.out 1).trans (rfl : _ = some (Value.int .i64 py))
            have p2 := (Blk.cell K_p.out 2).trans (rfl : _ = some (Value.int .i64 pz))
            go_wp2_with fail
            refine (HA.out _ (std_next HS.out HB.out)).mono ?_
            rintro e w4 ⟨rfl, hb4⟩
            clear p0 p1 p2
            replace K_p := hide (Blk.below K_p.out hb4 (Blk.lt K_p.out))
            replace K_q := hide (Blk.below K_q.out hb4 (Blk.lt K_q.out))
            replace HB := hide (HB.out.trans (hb4.mono HB.out.size))
            clear hb4
            go_upto_region 5 with (fail)
            have lt_t_p : b7 < w4.heap.size := Blk.lt K_p.out
            have lt_t_q : b8 < w4.heap.size := Blk.lt K_q.out
            replace K_p := K_p.out.alloc (.cells #[.string T0, .string T1, .string T2, .string W0, .string W1, .string W2] 25)
            replace K_q := K_q.out.alloc (.cells #[.string T0, .string T1, .string T2, .string W0, .string W1, .string W2] 25)
            replace HB := HB.out.alloc HB.out.size (.cells #[.string T0, .string T1, .string T2, .string W0, .string W1, .string W2] 25)
            have K_t := Blk.new w4 25 #[.string T0, .string T1, .string T2, .string W0, .string W1, .string W2]
            generalize w4.alloc (.cells #[.string T0, .string T1, .string T2, .string W0, .string W1, .string W2] 25) = w5 at *
            replace K_p := hide K_p
            replace K_q := hide K_q
            replace K_t := hide K_t
            replace HB := hide HB
            have q0 := (Blk.cell K_q.out 0).trans (rfl : _ = some (Value.int .i64 qx))
            have q1 := (Blk.cell K_q.out 1).trans (rfl : _ = some (Value.int .i64 qy))
            have q2 := (Blk.cell K_q.out 2).trans (rfl : _ = some (Value.int .i64 qz))
            go_wp2_with fail
            refine (HBB.out _ (std_next HS.out HB.out)).mono ?_
            rintro e w6 ⟨rfl, hb6⟩
            clear q0 q1 q2
            replace K_p := hide (Blk.below K_p.out hb6 (Blk.lt K_p.out))
            replace K_q := hide (Blk.below K_q.out hb6 (Blk.lt K_q.out))
            replace K_t := hide (Blk.below K_t.out hb6 (Blk.lt K_t.out))
            replace HB := hide (HB.out.trans (hb6.mono HB.out.size))
            clear hb6
            go_upto_region 6 with (fail)
            have lt_u_p : b7 < w6.heap.size := Blk.lt K_p.out
            have lt_u_q : b8 < w6.heap.size := Blk.lt K_q.out
            have lt_u_t : w4.heap.size < w6.heap.size := Blk.lt K_t.out
            replace K_p := K_p.out.alloc (.cells #[.string U0, .string U1, .string U2, .string W0, .string W1, .string W2] 25)
            replace K_q := K_q.out.alloc (.cells #[.string U0, .string U1, .string U2, .string W0, .string W1, .string W2] 25)
            replace K_t := K_t.out.alloc (.cells #[.string U0, .string U1, .string U2, .string W0, .string W1, .string W2] 25)
            replace HB := HB.out.alloc HB.out.size (.cells #[.string U0, .string U1, .string U2, .string W0, .string W1, .string W2] 25)
            have K_u := Blk.new w6 25 #[.string U0, .string U1, .string U2, .string W0, .string W1, .string W2]
            generalize w6.alloc (.cells #[.string U0, .string U1, .string U2, .string W0, .string W1, .string W2] 25) = w7 at *
            replace K_p := hide K_p
            replace K_q := hide K_q
            replace K_t := hide K_t
            replace K_u := hide K_u
            replace HB := hide HB
            have HW7 := hide HB.out.size
            have t0 := (Blk.cell K_t.out 0).trans (rfl : _ = some (Value.string T0))
            have t1 := (Blk.cell K_t.out 1).trans (rfl : _ = some (Value.string T1))
            have t2 := (Blk.cell K_t.out 2).trans (rfl : _ = some (Value.string T2))
            have t3 := (Blk.cell K_t.out 3).trans (rfl : _ = some (Value.string W0))
            have t4 := (Blk.cell K_t.out 4).trans (rfl : _ = some (Value.string W1))
            have t5 := (Blk.cell K_t.out 5).trans (rfl : _ = some (Value.string W2))
            have u0 := (Blk.cell K_u.out 0).trans (rfl : _ = some (Value.string U0))
            have u1 := (Blk.cell K_u.out 1).trans (rfl : _ = some (Value.string U1))
            have u2 := (Blk.cell K_u.out 2).trans (rfl : _ = some (Value.string U2))
            have u3 := (Blk.cell K_u.out 3).trans (rfl : _ = some (Value.string W0))
            have u4 := (Blk.cell K_u.out 4).trans (rfl : _ = some (Value.string W1))
            have u5 := (Blk.cell K_u.out 5).trans (rfl : _ = some (Value.string W2))
            have p0 := (Blk.cell K_p.out 0).trans (rfl : _ = some (Value.int .i64 px))
            have p1 := (Blk.cell K_p.out 1).trans (rfl : _ = some (Value.int .i64 py))
            have p2 := (Blk.cell K_p.out 2).trans (rfl : _ = some (Value.int .i64 pz))
            go_upto_region 9 with (fail)
            clear t0 t1 t2 t3 t4 t5 u0 u1 u2 u3 u4 u5 p0 p1 p2
            have lt_o_p : b7 < w7.heap.size := Blk.lt K_p.out
            have lt_o_q : b8 < w7.heap.size := Blk.lt K_q.out
            have lt_o_t : w4.heap.size < w7.heap.size := Blk.lt K_t.out
            have lt_o_u : w6.heap.size < w7.heap.size := Blk.lt K_u.out
            replace K_p := K_p.out.alloc (.cells #[.int .i64 px, .int .i64 py, .int .i64 pz] 27)
            replace K_q := K_q.out.alloc (.cells #[.int .i64 px, .int .i64 py, .int .i64 pz] 27)
            replace K_t := K_t.out.alloc (.cells #[.int .i64 px, .int .i64 py, .int .i64 pz] 27)
            replace K_u := K_u.out.alloc (.cells #[.int .i64 px, .int .i64 py, .int .i64 pz] 27)
            replace HB := HB.out.alloc HB.out.size (.cells #[.int .i64 px, .int .i64 py, .int .i64 pz] 27)
            have K_o := Blk.new w7 27 #[.int .i64 px, .int .i64 py, .int .i64 pz]
            generalize w7.alloc (.cells #[.int .i64 px, .int .i64 py, .int .i64 pz] 27) = w8 at *
            replace K_p := hide K_p
            replace K_q := hide K_q
            replace K_t := hide K_t
            replace K_u := hide K_u
            replace K_o := hide K_o
            replace HB := hide HB
            have q0 := (Blk.cell K_q.out 0).trans (rfl : _ = some (Value.int .i64 qx))
            have q1 := (Blk.cell K_q.out 1).trans (rfl : _ = some (Value.int .i64 qy))
            have q2 := (Blk.cell K_q.out 2).trans (rfl : _ = some (Value.int .i64 qz))
            have o0 := (Blk.cell K_o.out 0).trans (rfl : _ = some (Value.int .i64 px))
            have of0 := Blk.frozen K_o.out 0
            have o1 := (Blk.cell K_o.out 1).trans (rfl : _ = some (Value.int .i64 py))
            have of1 := Blk.frozen K_o.out 1
            have o2 := (Blk.cell K_o.out 2).trans (rfl : _ = some (Value.int .i64 pz))
            have of2 := Blk.frozen K_o.out 2
            have hwb : w.heap.size ≤ w7.heap.size := HW7.out
            go_upto_region 15 with (fail)
            clear q0 q1 q2 o0 of0 o1 of1 o2 of2
            replace K_p := K_p.out.far (p := ⟨w7.heap.size, 2, none⟩) (by show b7 ≠ w7.heap.size; omega) (.int .i64 qz)
            replace K_q := K_q.out.far (p := ⟨w7.heap.size, 2, none⟩) (by show b8 ≠ w7.heap.size; omega) (.int .i64 qz)
            replace K_t := K_t.out.far (p := ⟨w7.heap.size, 2, none⟩) (by show w4.heap.size ≠ w7.heap.size; omega) (.int .i64 qz)
            replace K_u := K_u.out.far (p := ⟨w7.heap.size, 2, none⟩) (by show w6.heap.size ≠ w7.heap.size; omega) (.int .i64 qz)
            replace K_o : Blk (w8.setCell ⟨w7.heap.size, 2, none⟩ (.int .i64 qz)) w7.heap.size 27 #[.int .i64 px, .int .i64 py, .int .i64 qz] := K_o.out.set_ 2 (.int .i64 qz)
            replace HB := HB.out.setCell (p := ⟨w7.heap.size, 2, none⟩) (by show w.heap.size ≤ w7.heap.size; omega) (.int .i64 qz)
            generalize w8.setCell ⟨w7.heap.size, 2, none⟩ (.int .i64 qz) = w9 at *
            replace K_p := hide K_p
            replace K_q := hide K_q
            replace K_t := hide K_t
            replace K_u := hide K_u
            replace K_o := hide K_o
            replace HB := hide HB
            have t0 := (Blk.cell K_t.out 0).trans (rfl : _ = some (Value.string T0))
            have t1 := (Blk.cell K_t.out 1).trans (rfl : _ = some (Value.string T1))
            have t2 := (Blk.cell K_t.out 2).trans (rfl : _ = some (Value.string T2))
            have t3 := (Blk.cell K_t.out 3).trans (rfl : _ = some (Value.string W0))
            have t4 := (Blk.cell K_t.out 4).trans (rfl : _ = some (Value.string W1))
            have t5 := (Blk.cell K_t.out 5).trans (rfl : _ = some (Value.string W2))
            have o0 := (Blk.cell K_o.out 0).trans (rfl : _ = some (Value.int .i64 px))
            have o1 := (Blk.cell K_o.out 1).trans (rfl : _ = some (Value.int .i64 py))
            have o2 := (Blk.cell K_o.out 2).trans (rfl : _ = some (Value.int .i64 qz))
            go_wp2_with fail
            refine (HP.out _ (std_next HS.out HB.out)).mono ?_
            rintro e w10 ⟨rfl, hb10⟩
            clear t0 t1 t2 t3 t4 t5 o0 o1 o2
            replace K_p := hide (Blk.below K_p.out hb10 (Blk.lt K_p.out))
            replace K_q := hide (Blk.below K_q.out hb10 (Blk.lt K_q.out))
            replace K_t := hide (Blk.below K_t.out hb10 (Blk.lt K_t.out))
            replace K_u := hide (Blk.below K_u.out hb10 (Blk.lt K_u.out))
            replace K_o := hide (Blk.below K_o.out hb10 (Blk.lt K_o.out))
            replace HB := hide (HB.out.trans (hb10.mono HB.out.size))
            clear hb10
            go_upto_region 16 with (fail)
            have lt_x_p : b7 < w10.heap.size := Blk.lt K_p.out
            have lt_x_q : b8 < w10.heap.size := Blk.lt K_q.out
            have lt_x_t : w4.heap.size < w10.heap.size := Blk.lt K_t.out
            have lt_x_u : w6.heap.size < w10.heap.size := Blk.lt K_u.out
            have lt_x_o : w7.heap.size < w10.heap.size := Blk.lt K_o.out
            replace K_p := K_p.out.alloc (.cells #[.string X0, .string X1, .string X2] 23)
            replace K_q := K_q.out.alloc (.cells #[.string X0, .string X1, .string X2] 23)
            replace K_t := K_t.out.alloc (.cells #[.string X0, .string X1, .string X2] 23)
            replace K_u := K_u.out.alloc (.cells #[.string X0, .string X1, .string X2] 23)
            replace K_o := K_o.out.alloc (.cells #[.string X0, .string X1, .string X2] 23)
            replace HB := HB.out.alloc HB.out.size (.cells #[.string X0, .string X1, .string X2] 23)
            have K_x := Blk.new w10 23 #[.string X0, .string X1, .string X2]
            generalize w10.alloc (.cells #[.string X0, .string X1, .string X2] 23) = w11 at *
            replace K_p := hide K_p
            replace K_q := hide K_q
            replace K_t := hide K_t
            replace K_u := hide K_u
            replace K_o := hide K_o
            replace K_x := hide K_x
            replace HB := hide HB
            have o0 := (Blk.cell K_o.out 0).trans (rfl : _ = some (Value.int .i64 px))
            have o1 := (Blk.cell K_o.out 1).trans (rfl : _ = some (Value.int .i64 py))
            have o2 := (Blk.cell K_o.out 2).trans (rfl : _ = some (Value.int .i64 qz))
            have x0 := (Blk.cell K_x.out 0).trans (rfl : _ = some (Value.string X0))
            have x1 := (Blk.cell K_x.out 1).trans (rfl : _ = some (Value.string X1))
            have x2 := (Blk.cell K_x.out 2).trans (rfl : _ = some (Value.string X2))
            have SK : ∀ w', Below w11.heap.size w11 w' → Below w11.heap.size w11 w' ∧ w'.cell? ⟨w7.heap.size, 0, none⟩ = some (.int .i64 px) ∧ w'.cell? ⟨w7.heap.size, 1, none⟩ = some (.int .i64 py) ∧ w'.cell? ⟨w7.heap.size, 2, none⟩ = some (.int .i64 qz) ∧ w'.cell? ⟨w10.heap.size, 0, none⟩ = some (.string X0) ∧ w'.cell? ⟨w10.heap.size, 1, none⟩ = some (.string X1) ∧ w'.cell? ⟨w10.heap.size, 2, none⟩ = some (.string X2) := fun w' h => ⟨h, (bcell h _ _ (block_lt_of_cell o0)).trans o0, (bcell h _ _ (block_lt_of_cell o1)).trans o1, (bcell h _ _ (block_lt_of_cell o2)).trans o2, (bcell h _ _ (block_lt_of_cell x0)).trans x0, (bcell h _ _ (block_lt_of_cell x1)).trans x1, (bcell h _ _ (block_lt_of_cell x2)).trans x2⟩
            have SS' : ∀ {R : Prop} {W : World}, Below w11.heap.size w11 W ∧ R → Std W := fun h => HS.out.below (HB.out.trans (h.1.mono HB.out.size)) (Nat.le_refl _)
            go_region_held3 (fun w' => Below w11.heap.size w11 w' ∧ w'.cell? ⟨w7.heap.size, 0, none⟩ = some (.int .i64 px) ∧ w'.cell? ⟨w7.heap.size, 1, none⟩ = some (.int .i64 py) ∧ w'.cell? ⟨w7.heap.size, 2, none⟩ = some (.int .i64 qz) ∧ w'.cell? ⟨w10.heap.size, 0, none⟩ = some (.string X0) ∧ w'.cell? ⟨w10.heap.size, 1, none⟩ = some (.string X1) ∧ w'.cell? ⟨w10.heap.size, 2, none⟩ = some (.string X2)) (first | exact SK _ (Below.refl _ _).drew | exact SK _ (Below.refl _ _) | exact SK _ (bel_next (by assumption) (by assumption) (Nat.le_refl _)))
              (first
                | (go_at_call 25; (with_reducible refine (HX0.out _).mono ?_); rintro e wx ⟨rfl, hbW⟩)
                | (go_at_call 25; (with_reducible refine (HX1.out _).mono ?_); rintro e wx ⟨rfl, hbW⟩)
                | (go_at_call 25; (with_reducible refine (HX2.out _).mono ?_); rintro e wx ⟨rfl, hbW⟩)
                | (go_at_call 11; refine (awake40 _ (SS' (by assumption))).mono ?_; rintro e wx ⟨rfl, hbW⟩))
            obtain ⟨hbx, _⟩ : Below w11.heap.size w11 _ ∧ _ := by assumption
            have HX := hide (HB.out.trans (hbx.mono HB.out.size))
            clear hbx
            go_wp2_with fail
            go_ret
            exact ⟨rfl, HX.out⟩
          · have HD := hide (decide_eq_true hp)
            have HE := hide (decide_eq_true hq)
            have hl1 : ¬ (24 : Int) < (a.size : Int) := by omega
            have hl2 : ¬ 24 < a.size := by omega
            obtain ⟨c, hc2⟩ : ∃ c, chkR a.data.toList = c := ⟨_, rfl⟩
            rw [hc2] at hc
            have HC := hide hc2
            have hcb : (c != 0) = true := by simpa using hc
            clear hp hq hc2
            have p0 := (Blk.cell K_p.out 0).trans (rfl : _ = some (Value.int .i64 px))
            have p1 := (Blk.cell K_p.out 1).trans (rfl : _ = some (Value.int .i64 py))
            have p2 := (Blk.cell K_p.out 2).trans (rfl : _ = some (Value.int .i64 pz))
            go_wp2_with fail
            refine (rrights_any _ px py pz).mono ?_
            rw [HD.out]
            rintro e w1 ⟨rfl, hb1⟩
            clear p0 p1 p2
            replace K_p := hide (Blk.below K_p.out hb1 (Blk.lt K_p.out))
            replace K_q := hide (Blk.below K_q.out hb1 (Blk.lt K_q.out))
            replace HB := hide (HB.out.trans (hb1.mono HB.out.size))
            clear hb1
            have q0 := (Blk.cell K_q.out 0).trans (rfl : _ = some (Value.int .i64 qx))
            have q1 := (Blk.cell K_q.out 1).trans (rfl : _ = some (Value.int .i64 qy))
            have q2 := (Blk.cell K_q.out 2).trans (rfl : _ = some (Value.int .i64 qz))
            go_wp2_with fail
            refine (rrights_any _ qx qy qz).mono ?_
            rw [HE.out]
            rintro e w2 ⟨rfl, hb2⟩
            clear q0 q1 q2
            replace K_p := hide (Blk.below K_p.out hb2 (Blk.lt K_p.out))
            replace K_q := hide (Blk.below K_q.out hb2 (Blk.lt K_q.out))
            replace HB := hide (HB.out.trans (hb2.mono HB.out.size))
            clear hb2
            go_wp2_with fail
            refine (rrcheck_any _ a _ rfl (by omega)).mono ?_
            rw [HC.out]
            rintro e w3 ⟨rfl, hb3⟩
            replace K_p := hide (Blk.below K_p.out hb3 (Blk.lt K_p.out))
            replace K_q := hide (Blk.below K_q.out hb3 (Blk.lt K_q.out))
            replace HB := hide (HB.out.trans (hb3.mono HB.out.size))
            clear hb3
            go_wp2_with fail
            refine (awake40 _ (std_next HS.out HB.out)).mono ?_
            rintro e w4 ⟨rfl, hb4⟩
            replace K_p := hide (Blk.below K_p.out hb4 (Blk.lt K_p.out))
            replace K_q := hide (Blk.below K_q.out hb4 (Blk.lt K_q.out))
            replace HB := hide (HB.out.trans (hb4.mono HB.out.size))
            clear hb4
            go_wp2_with fail
            go_ret
            exact ⟨rfl, HB.out⟩
        · have HD := hide (decide_eq_true hp)
          have HE := hide (decide_eq_true hq)
          have hl1 : (24 : Int) < (a.size : Int) := by omega
          have hl2 : 24 < a.size := by omega
          clear hp hq
          have p0 := (Blk.cell K_p.out 0).trans (rfl : _ = some (Value.int .i64 px))
          have p1 := (Blk.cell K_p.out 1).trans (rfl : _ = some (Value.int .i64 py))
          have p2 := (Blk.cell K_p.out 2).trans (rfl : _ = some (Value.int .i64 pz))
          go_wp2_with fail
          refine (rrights_any _ px py pz).mono ?_
          rw [HD.out]
          rintro e w1 ⟨rfl, hb1⟩
          clear p0 p1 p2
          replace K_p := hide (Blk.below K_p.out hb1 (Blk.lt K_p.out))
          replace K_q := hide (Blk.below K_q.out hb1 (Blk.lt K_q.out))
          replace HB := hide (HB.out.trans (hb1.mono HB.out.size))
          clear hb1
          have q0 := (Blk.cell K_q.out 0).trans (rfl : _ = some (Value.int .i64 qx))
          have q1 := (Blk.cell K_q.out 1).trans (rfl : _ = some (Value.int .i64 qy))
          have q2 := (Blk.cell K_q.out 2).trans (rfl : _ = some (Value.int .i64 qz))
          go_wp2_with fail
          refine (rrights_any _ qx qy qz).mono ?_
          rw [HE.out]
          rintro e w2 ⟨rfl, hb2⟩
          clear q0 q1 q2
          replace K_p := hide (Blk.below K_p.out hb2 (Blk.lt K_p.out))
          replace K_q := hide (Blk.below K_q.out hb2 (Blk.lt K_q.out))
          replace HB := hide (HB.out.trans (hb2.mono HB.out.size))
          clear hb2
          go_wp2_with fail
          refine (awake40 _ (std_next HS.out HB.out)).mono ?_
          rintro e w3 ⟨rfl, hb3⟩
          replace K_p := hide (Blk.below K_p.out hb3 (Blk.lt K_p.out))
          replace K_q := hide (Blk.below K_q.out hb3 (Blk.lt K_q.out))
          replace HB := hide (HB.out.trans (hb3.mono HB.out.size))
          clear hb3
          go_wp2_with fail
          go_ret
          exact ⟨rfl, HB.out⟩
      · have HD := hide (decide_eq_true hp)
        have HE := hide (decide_eq_false hq)
        clear hp hq
        have p0 := (Blk.cell K_p.out 0).trans (rfl : _ = some (Value.int .i64 px))
        have p1 := (Blk.cell K_p.out 1).trans (rfl : _ = some (Value.int .i64 py))
        have p2 := (Blk.cell K_p.out 2).trans (rfl : _ = some (Value.int .i64 pz))
        go_wp2_with fail
        refine (rrights_any _ px py pz).mono ?_
        rw [HD.out]
        rintro e w1 ⟨rfl, hb1⟩
        clear p0 p1 p2
        replace K_p := hide (Blk.below K_p.out hb1 (Blk.lt K_p.out))
        replace K_q := hide (Blk.below K_q.out hb1 (Blk.lt K_q.out))
        replace HB := hide (HB.out.trans (hb1.mono HB.out.size))
        clear hb1
        have q0 := (Blk.cell K_q.out 0).trans (rfl : _ = some (Value.int .i64 qx))
        have q1 := (Blk.cell K_q.out 1).trans (rfl : _ = some (Value.int .i64 qy))
        have q2 := (Blk.cell K_q.out 2).trans (rfl : _ = some (Value.int .i64 qz))
        go_wp2_with fail
        refine (rrights_any _ qx qy qz).mono ?_
        rw [HE.out]
        rintro e w2 ⟨rfl, hb2⟩
        clear q0 q1 q2
        replace K_p := hide (Blk.below K_p.out hb2 (Blk.lt K_p.out))
        replace K_q := hide (Blk.below K_q.out hb2 (Blk.lt K_q.out))
        replace HB := hide (HB.out.trans (hb2.mono HB.out.size))
        clear hb2
        go_wp2_with fail
        refine (awake40 _ (std_next HS.out HB.out)).mono ?_
        rintro e w3 ⟨rfl, hb3⟩
        replace K_p := hide (Blk.below K_p.out hb3 (Blk.lt K_p.out))
        replace K_q := hide (Blk.below K_q.out hb3 (Blk.lt K_q.out))
        replace HB := hide (HB.out.trans (hb3.mono HB.out.size))
        clear hb3
        go_wp2_with fail
        go_ret
        exact ⟨rfl, HB.out⟩
    · have HD := hide (decide_eq_false hp)
      clear hp
      have p0 := (Blk.cell K_p.out 0).trans (rfl : _ = some (Value.int .i64 px))
      have p1 := (Blk.cell K_p.out 1).trans (rfl : _ = some (Value.int .i64 py))
      have p2 := (Blk.cell K_p.out 2).trans (rfl : _ = some (Value.int .i64 pz))
      go_wp2_with fail
      refine (rrights_any _ px py pz).mono ?_
      rw [HD.out]
      rintro e w1 ⟨rfl, hb1⟩
      clear p0 p1 p2
      replace K_p := hide (Blk.below K_p.out hb1 (Blk.lt K_p.out))
      replace K_q := hide (Blk.below K_q.out hb1 (Blk.lt K_q.out))
      replace HB := hide (HB.out.trans (hb1.mono HB.out.size))
      clear hb1
      go_wp2_with fail
      refine (awake40 _ (std_next HS.out HB.out)).mono ?_
      rintro e w2 ⟨rfl, hb2⟩
      replace K_p := hide (Blk.below K_p.out hb2 (Blk.lt K_p.out))
      replace K_q := hide (Blk.below K_q.out hb2 (Blk.lt K_q.out))
      replace HB := hide (HB.out.trans (hb2.mono HB.out.size))
      clear hb2
      go_wp2_with fail
      go_ret
      exact ⟨rfl, HB.out⟩

theorem turns_any (w : World) (n : Int) (px py pz qx qy qz : Int) (a : ByteArray) (hn : (Lit.int .u8 n).wf = true) (ha : a.size ≤ maxLen) (hs : Std w) :
    Calls Tryz.prog 5 #[.int .u8 n, .agg #[.int .i64 px, .int .i64 py, .int .i64 pz, .int .i64 qx, .int .i64 qy, .int .i64 qz], .string a] w fun e w' => e = .returned (.bool true) ∧ Below w.heap.size w w' := by
  have h0 : 0 ≤ n := by
    simp only [Lit.wf, Bool.and_eq_true, decide_eq_true_eq] at hn
    exact hn.1
  have hk : n % 3 = 0 ∨ n % 3 = 1 ∨ n % 3 = 2 := by omega
  rcases hk with hk | hk | hk
  · exact turns0 w n px py pz qx qy qz a h0 hk ha hs
  · exact turns1 w n px py pz qx qy qz a h0 hk ha hs
  · exact turns2 w n px py pz qx qy qz a h0 hk ha hs
end Go.Proofs.YtdkilkliccljeaaGreatDoor
