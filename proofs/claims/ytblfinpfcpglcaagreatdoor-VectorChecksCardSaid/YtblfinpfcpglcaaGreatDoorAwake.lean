/- the examples of the chapter. -/
import Derived.Test.YtblfinpfcpglcaaGreatDoorPlane
import Derived.Test.YtblfinpfcpglcaaGreatDoorSeg
import Derived.Test.YtblfinpfcpglcaaGreatDoorArr
namespace Go.Proofs.YtblfinpfcpglcaaGreatDoor
open Go.RowKit MLab

set_option maxRecDepth 100000 in
theorem at_any (w : World) (x y : Int) : Calls Tryz.prog 28 #[.int .i64 x, .int .i64 y] w fun e w' => e = .returned (.agg #[.int .i64 x, .int .i64 y]) ∧ Below w.heap.size w w' := by
  go_enter Tryz.func28, Tryz.ntmps28
  go_wp2_with fail
  exact bodyPost_ret (v := .agg #[.int .i64 x, .int .i64 y]) (by simp [results, Tryz.results28, go_sem]) rfl ⟨rfl, allocs_below w [(.cells #[.int .i64 x, .int .i64 y] 23)]⟩

set_option maxRecDepth 100000 in
theorem high3_any (w : World) (x y z : Int) : Calls Tryz.prog 65 #[.int .i64 x, .int .i64 y, .int .i64 z] w fun e w' => e = .returned (.agg #[.int .i64 x, .int .i64 y, .int .i64 z]) ∧ Below w.heap.size w w' := by
  go_enter Tryz.func65, Tryz.ntmps65
  go_wp2_with fail
  exact bodyPost_ret (v := .agg #[.int .i64 x, .int .i64 y, .int .i64 z]) (by simp [results, Tryz.results65, go_sem]) rfl ⟨rfl, allocs_below w [(.cells #[.int .i64 x, .int .i64 y, .int .i64 z] 33)]⟩

set_option maxRecDepth 100000 in
set_option maxHeartbeats 4000000 in
theorem awake_any (w : World) (hs : Std w) : Calls Tryz.prog 16 #[] w fun e w' => e = .returned (.bool true) ∧ Below w.heap.size w w' := by
  have HS := hide hs
  clear hs
  go_enter Tryz.func16, Tryz.ntmps16
  go_wp2_with fail
  refine (at_any _ 0 0).mono ?_
  rintro e w1 ⟨rfl, hb1⟩
  have K1 := hide hb1
  clear hb1
  go_wp2_with fail
  refine (at_any _ 4 0).mono ?_
  rintro e w2 ⟨rfl, hb2⟩
  have K2 := hide (K1.out.trans (hb2.mono K1.out.size))
  clear hb2 K1
  go_wp2_with fail
  refine (at_any _ 0 3).mono ?_
  rintro e w3 ⟨rfl, hb3⟩
  have K3 := hide (K2.out.trans (hb3.mono K2.out.size))
  clear hb3 K2
  go_wp2_with fail
  refine (Cross_any _ 0 0 4 0 0 3).mono ?_
  rw [show R2 ((4 - 0) * (3 - 0) - (0 - 0) * (0 - 0)) (Co 0 ∧ Co 0 ∧ Co 4 ∧ Co 0 ∧ Co 0 ∧ Co 3) = .tuple #[.int .i64 12, .int .i64 0] from by exact (R2_pos _ (by decide)).trans rfl]
  rintro e w4 ⟨rfl, hb4⟩
  have K4 := hide (K3.out.trans (hb4.mono K3.out.size))
  clear hb4 K3
  go_wp2_with fail
  refine (at_any _ 4 0).mono ?_
  rintro e w5 ⟨rfl, hb5⟩
  have K5 := hide (K4.out.trans (hb5.mono K4.out.size))
  clear hb5 K4
  go_wp2_with fail
  refine (at_any _ 1 3).mono ?_
  rintro e w6 ⟨rfl, hb6⟩
  have K6 := hide (K5.out.trans (hb6.mono K5.out.size))
  clear hb6 K5
  go_wp2_with fail
  refine (Dot_any _ 4 0 1 3).mono ?_
  rw [show R2 (4 * 1 + 0 * 3) (Co 4 ∧ Co 0 ∧ Co 1 ∧ Co 3) = .tuple #[.int .i64 4, .int .i64 0] from by exact (R2_pos _ (by decide)).trans rfl]
  rintro e w7 ⟨rfl, hb7⟩
  have K7 := hide (K6.out.trans (hb7.mono K6.out.size))
  clear hb7 K6
  go_wp2_with fail
  refine (high3_any _ 0 0 0).mono ?_
  rintro e w8 ⟨rfl, hb8⟩
  have K8 := hide (K7.out.trans (hb8.mono K7.out.size))
  clear hb8 K7
  go_wp2_with fail
  refine (high3_any _ 1 0 0).mono ?_
  rintro e w9 ⟨rfl, hb9⟩
  have K9 := hide (K8.out.trans (hb9.mono K8.out.size))
  clear hb9 K8
  go_wp2_with fail
  refine (high3_any _ 0 2 0).mono ?_
  rintro e w10 ⟨rfl, hb10⟩
  have K10 := hide (K9.out.trans (hb10.mono K9.out.size))
  clear hb10 K9
  go_wp2_with fail
  refine (high3_any _ 0 0 3).mono ?_
  rintro e w11 ⟨rfl, hb11⟩
  have K11 := hide (K10.out.trans (hb11.mono K10.out.size))
  clear hb11 K10
  go_wp2_with fail
  refine (Volume_any _ 0 0 0 1 0 0 0 2 0 0 0 3).mono ?_
  rw [show R2 (((0 - 0) * (0 - 0) - (0 - 0) * (2 - 0)) * (0 - 0) + ((0 - 0) * (0 - 0) - (1 - 0) * (0 - 0)) * (0 - 0) + ((1 - 0) * (2 - 0) - (0 - 0) * (0 - 0)) * (3 - 0)) (Co 0 ∧ Co 0 ∧ Co 0 ∧ Co 1 ∧ Co 0 ∧ Co 0 ∧ Co 0 ∧ Co 2 ∧ Co 0 ∧ Co 0 ∧ Co 0 ∧ Co 3) = .tuple #[.int .i64 6, .int .i64 0] from by exact (R2_pos _ (by decide)).trans rfl]
  rintro e w12 ⟨rfl, hb12⟩
  have K12 := hide (K11.out.trans (hb12.mono K11.out.size))
  clear hb12 K11
  go_wp2_with fail
  refine (high3_any _ 0 0 0).mono ?_
  rintro e w13 ⟨rfl, hb13⟩
  have K13 := hide (K12.out.trans (hb13.mono K12.out.size))
  clear hb13 K12
  go_wp2_with fail
  refine (high3_any _ 1 0 0).mono ?_
  rintro e w14 ⟨rfl, hb14⟩
  have K14 := hide (K13.out.trans (hb14.mono K13.out.size))
  clear hb14 K13
  go_wp2_with fail
  refine (high3_any _ 0 2 0).mono ?_
  rintro e w15 ⟨rfl, hb15⟩
  have K15 := hide (K14.out.trans (hb15.mono K14.out.size))
  clear hb15 K14
  go_wp2_with fail
  refine (Normal_any _ 0 0 0 1 0 0 0 2 0).mono ?_
  rw [show RN ((0 - 0) * (0 - 0) - (0 - 0) * (2 - 0)) ((0 - 0) * (0 - 0) - (1 - 0) * (0 - 0)) ((1 - 0) * (2 - 0) - (0 - 0) * (0 - 0)) (Co 0 ∧ Co 0 ∧ Co 0 ∧ Co 1 ∧ Co 0 ∧ Co 0 ∧ Co 0 ∧ Co 2 ∧ Co 0) = .tuple #[.agg #[.int .i64 0, .int .i64 0, .int .i64 2], .int .i64 0] from by exact (RN_pos _ _ _ (by decide)).trans rfl]
  rintro e w16 ⟨rfl, hb16⟩
  have K16 := hide (K15.out.trans (hb16.mono K15.out.size))
  clear hb16 K15
  go_wp2_with fail
  refine (at_any _ 0 0).mono ?_
  rintro e w17 ⟨rfl, hb17⟩
  have N17 := hide ((hb17.block _ (by simp)).trans (Blk.new w16 35 #[.int .i64 0, .int .i64 0, .int .i64 2]))
  have hb17 := (allocs_below w16 [.cells #[.int .i64 0, .int .i64 0, .int .i64 2] 35]).trans (hb17.mono (by simp))
  have K17 := hide (K16.out.trans (hb17.mono K16.out.size))
  clear hb17 K16
  go_wp2_with fail
  refine (at_any _ 4 0).mono ?_
  rintro e w18 ⟨rfl, hb18⟩
  have N18 := hide ((hb18.block _ (Blk.lt N17.out)).trans N17.out)
  have K18 := hide (K17.out.trans (hb18.mono K17.out.size))
  clear hb18 K17 N17
  go_wp2_with fail
  refine (at_any _ 0 3).mono ?_
  rintro e w19 ⟨rfl, hb19⟩
  have N19 := hide ((hb19.block _ (Blk.lt N18.out)).trans N18.out)
  have K19 := hide (K18.out.trans (hb19.mono K18.out.size))
  clear hb19 K18 N18
  go_wp2_with fail
  refine (ToLine_any _ 0 0 4 0 0 3 (HS.out.below K19.out (Nat.le_refl _))).mono ?_
  rw [show RR (lineR 0 0 4 0 0 3) = .tuple #[.string ⟨#[49, 52, 52, 47, 50, 53]⟩, .int .i64 0] from by rw [lineR, if_pos (by decide), if_neg (by decide), RR]; kernel_rfl]
  rintro e w20 ⟨rfl, hb20⟩
  have N20 := hide ((hb20.block _ (Blk.lt N19.out)).trans N19.out)
  have K20 := hide (K19.out.trans (hb20.mono K19.out.size))
  clear hb20 K19 N19
  go_wp2_with fail
  refine (at_any _ 9 0).mono ?_
  rintro e w21 ⟨rfl, hb21⟩
  have N21 := hide ((hb21.block _ (Blk.lt N20.out)).trans N20.out)
  have K21 := hide (K20.out.trans (hb21.mono K20.out.size))
  clear hb21 K20 N20
  go_wp2_with fail
  refine (at_any _ 0 0).mono ?_
  rintro e w22 ⟨rfl, hb22⟩
  have N22 := hide ((hb22.block _ (Blk.lt N21.out)).trans N21.out)
  have K22 := hide (K21.out.trans (hb22.mono K21.out.size))
  clear hb22 K21 N21
  go_wp2_with fail
  refine (at_any _ 5 0).mono ?_
  rintro e w23 ⟨rfl, hb23⟩
  have N23 := hide ((hb23.block _ (Blk.lt N22.out)).trans N22.out)
  have K23 := hide (K22.out.trans (hb23.mono K22.out.size))
  clear hb23 K22 N22
  go_wp2_with fail
  refine (ToSegment_any _ 9 0 0 0 5 0 (HS.out.below K23.out (Nat.le_refl _))).mono ?_
  rw [show RR (segR 9 0 0 0 5 0) = .tuple #[.string ⟨#[49, 54]⟩, .int .i64 0] from by rw [segR, if_pos (by decide), if_pos (by decide), RR]; kernel_rfl]
  rintro e w24 ⟨rfl, hb24⟩
  have N24 := hide ((hb24.block _ (Blk.lt N23.out)).trans N23.out)
  have K24 := hide (K23.out.trans (hb24.mono K23.out.size))
  clear hb24 K23 N23
  go_wp2_with fail
  refine (high3_any _ 0 0 0).mono ?_
  rintro e w25 ⟨rfl, hb25⟩
  have N25 := hide ((hb25.block _ (Blk.lt N24.out)).trans N24.out)
  have K25 := hide (K24.out.trans (hb25.mono K24.out.size))
  clear hb25 K24 N24
  go_wp2_with fail
  refine (high3_any _ 1 0 0).mono ?_
  rintro e w26 ⟨rfl, hb26⟩
  have N26 := hide ((hb26.block _ (Blk.lt N25.out)).trans N25.out)
  have K26 := hide (K25.out.trans (hb26.mono K25.out.size))
  clear hb26 K25 N25
  go_wp2_with fail
  refine (high3_any _ 0 1 0).mono ?_
  rintro e w27 ⟨rfl, hb27⟩
  have N27 := hide ((hb27.block _ (Blk.lt N26.out)).trans N26.out)
  have K27 := hide (K26.out.trans (hb27.mono K26.out.size))
  clear hb27 K26 N26
  go_wp2_with fail
  refine (high3_any _ 0 0 1).mono ?_
  rintro e w28 ⟨rfl, hb28⟩
  have N28 := hide ((hb28.block _ (Blk.lt N27.out)).trans N27.out)
  have K28 := hide (K27.out.trans (hb28.mono K27.out.size))
  clear hb28 K27 N27
  go_wp2_with fail
  refine (ToPlane_any _ 0 0 0 1 0 0 0 1 0 0 0 1 (HS.out.below K28.out (Nat.le_refl _))).mono ?_
  rw [show RR (planeR 0 0 0 1 0 0 0 1 0 0 0 1) = .tuple #[.string ⟨#[49, 47, 51]⟩, .int .i64 0] from by rw [planeR, if_pos (by decide), if_neg (by decide), RR]; kernel_rfl]
  rintro e w29 ⟨rfl, hb29⟩
  have N29 := hide ((hb29.block _ (Blk.lt N28.out)).trans N28.out)
  have K29 := hide (K28.out.trans (hb29.mono K28.out.size))
  clear hb29 K28 N28
  have y0 : w29.cell? ⟨w16.heap.size, 0, none⟩ = some (.int .i64 0) := (Blk.cell N29.out 0).trans rfl
  have y1 : w29.cell? ⟨w16.heap.size, 1, none⟩ = some (.int .i64 0) := (Blk.cell N29.out 1).trans rfl
  have y2 : w29.cell? ⟨w16.heap.size, 2, none⟩ = some (.int .i64 2) := (Blk.cell N29.out 2).trans rfl
  have hE := run_eq3 w29 0 0 2 0 0 2
  go_wp2_with fail
  go_ret
  exact ⟨rfl, K29.out⟩

end Go.Proofs.YtblfinpfcpglcaaGreatDoor
