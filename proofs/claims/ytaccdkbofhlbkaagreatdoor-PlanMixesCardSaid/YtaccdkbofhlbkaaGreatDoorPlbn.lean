/- plan.Binomial. -/
import Derived.Test.YtaccdkbofhlbkaaGreatDoorPlunit
import Derived.Test.YtaccdkbofhlbkaaGreatDoorPlaws4
namespace Go.Proofs.YtaccdkbofhlbkaaGreatDoor
open Go.RowKit Go.Shelf MLab

set_option maxRecDepth 100000 in
set_option maxHeartbeats 2000000 in
theorem plBin_bad (w : World) (N C : Int) (a : ByteArray) (h : ckP N C = 2) :
    Calls Tryz.prog 25 #[.agg #[.int .i64 N, .int .i64 C], .string a] w fun e w' => e = .returned (.tuple #[.string ⟨#[]⟩, .int .i64 2]) ∧ Below w.heap.size w w' := by
  have HC := hide (plck_any (w.alloc (.cells #[.int .i64 N, .int .i64 C] 30)) N C)
  have BW := hide ((Below.refl w.heap.size w).alloc (Nat.le_refl _) (.cells #[.int .i64 N, .int .i64 C] 30))
  rw [h] at HC
  go_enter Tryz.func25, Tryz.ntmps25
  go_wp2_with fail
  refine HC.out.mono ?_
  rintro e w1 ⟨rfl, hb⟩
  have HB := hide (BW.out.trans (hb.mono BW.out.size))
  clear HC hb
  go_wp2_with fail
  go_ret2
  exact ⟨rfl, HB.out⟩

set_option maxRecDepth 100000 in
set_option maxHeartbeats 2000000 in
theorem plBin_bad1 (w : World) (N C : Int) (a : ByteArray) (l : List UInt8) (hl : a.data.toList = l) (hL : l.length < 4000000000) (h : chkR l ≠ 0) (hp : ckP N C = 0) (hs : Std w) :
    Calls Tryz.prog 25 #[.agg #[.int .i64 N, .int .i64 C], .string a] w fun e w' => e = .returned (.tuple #[.string ⟨#[]⟩, .int .i64 (chkR l)]) ∧ Below w.heap.size w w' := by
  have HC := hide (plck_any (w.alloc (.cells #[.int .i64 N, .int .i64 C] 30)) N C)
  have BW := hide ((Below.refl w.heap.size w).alloc (Nat.le_refl _) (.cells #[.int .i64 N, .int .i64 C] 30))
  rw [hp] at HC
  have HS := hide hs
  have HU := hide (fun W (hS : Std W) => unit_bad W a l hl hL h hS)
  obtain ⟨z, hz, hz0⟩ := chkR_ne h
  rw [hz] at HU ⊢
  clear hl hz h
  clear hs
  go_enter Tryz.func25, Tryz.ntmps25
  go_wp2_with fail
  refine HC.out.mono ?_
  rintro e w1 ⟨rfl, hb⟩
  have HB := hide (BW.out.trans (hb.mono BW.out.size))
  clear HC hb
  go_wp2_with fail
  refine (HU.out _ (HS.out.below HB.out (Nat.le_refl _))).mono ?_
  rintro e w2 ⟨rfl, hb⟩
  replace HB := hide (HB.out.trans (hb.mono HB.out.size))
  clear HU hb
  go_wp2_with fail
  go_ret2
  exact ⟨rfl, HB.out⟩

set_option maxRecDepth 100000 in
set_option maxHeartbeats 2000000 in
theorem plBin_bad2 (w : World) (N C : Int) (a : ByteArray) (q : Rat) (ha : a.data.toList = RT q) (hq : Fit q) (h : unitQ q = 2) (hp : ckP N C = 0) (hs : Std w) :
    Calls Tryz.prog 25 #[.agg #[.int .i64 N, .int .i64 C], .string a] w fun e w' => e = .returned (.tuple #[.string ⟨#[]⟩, .int .i64 (2)]) ∧ Below w.heap.size w w' := by
  have HC := hide (plck_any (w.alloc (.cells #[.int .i64 N, .int .i64 C] 30)) N C)
  have BW := hide ((Below.refl w.heap.size w).alloc (Nat.le_refl _) (.cells #[.int .i64 N, .int .i64 C] 30))
  rw [hp] at HC
  have HS := hide hs
  have HU := hide (fun W (hS : Std W) => unit_any W a q ha hq hS)
  rw [h] at HU
  clear ha hq h
  clear hs
  go_enter Tryz.func25, Tryz.ntmps25
  go_wp2_with fail
  refine HC.out.mono ?_
  rintro e w1 ⟨rfl, hb⟩
  have HB := hide (BW.out.trans (hb.mono BW.out.size))
  clear HC hb
  go_wp2_with fail
  refine (HU.out _ (HS.out.below HB.out (Nat.le_refl _))).mono ?_
  rintro e w2 ⟨rfl, hb⟩
  replace HB := hide (HB.out.trans (hb.mono HB.out.size))
  clear HU hb
  go_wp2_with fail
  go_ret2
  exact ⟨rfl, HB.out⟩

set_option maxRecDepth 100000 in
set_option maxHeartbeats 8000000 in
theorem plBin_any (w : World) (N C x y d : Nat) (a : ByteArray) (q : Rat) (ha : a.data.toList = RT q) (hn : q.num = (x : Int)) (hden : q.den = x + y) (hxy : x + y ≤ 10 ^ d) (hdN : d * N ≤ 1000) (h1N : 1 ≤ N) (hC : C ≤ N) (hN : N ≤ 64) (hs : Std w) :
    Calls Tryz.prog 25 #[.agg #[.int .i64 (N : Int), .int .i64 (C : Int)], .string a] w fun e w' => RetRat (proQ x y N C) e ∧ Below w.heap.size w w' := by
  have HS := hide hs
  have h01 : x + y ≤ 10 ^ (d * N) := Nat.le_trans hxy (Nat.pow_le_pow_right (by omega) (Nat.le_mul_of_pos_right d h1N))
  have hd1 : d ≤ d * N := Nat.le_mul_of_pos_right d h1N
  have hxyp : 0 < x + y := by rw [← hden]; exact Nat.pos_of_ne_zero q.den_nz
  have hqF : Fit q := ⟨by rw [hn, Int.natAbs_natCast]; exact big_of_le (k := d) (by omega) (by omega), by rw [hden]; exact big_of_le (k := d) hxy (by omega)⟩
  have hyB : ((y : Nat) : Int).natAbs < Big := by rw [Int.natAbs_natCast]; exact big_of_le (k := d) (by omega) (by omega)
  have hxB : ((x : Nat) : Int).natAbs < Big := by rw [Int.natAbs_natCast]; exact big_of_le (k := d) (by omega) (by omega)
  have hxyB : ((x + y : Nat) : Int).natAbs < Big := by rw [Int.natAbs_natCast]; exact big_of_le (k := d) hxy (by omega)
  have hu : unitQ q = 0 := if_pos ⟨Rat.num_nonneg.1 (by omega), by rw [Rat.le_iff, hn, hden]; simp; omega⟩
  have HC := hide (fun W => plck_any W (N : Int) (C : Int))
  rw [ckP_zero.2 (by omega)] at HC
  have HU := hide (fun W (hS : Std W) => unit_any W a q ha hqF hS)
  rw [hu] at HU
  have HP := hide (fun W (hS : Std W) => rparts_any W a q ha hqF hS)
  rw [hn, hden] at HP
  have HD := hide (fun W (hS : Std W) => subT_any W ((x + y : Nat) : Int) ((x : Nat) : Int) hxyB hxB (by rw [show ((x + y : Nat) : Int) - (x : Int) = (y : Int) by omega]; exact hyB) hS)
  rw [show ((x + y : Nat) : Int) - (x : Int) = (y : Int) by omega] at HD
  have HPW := hide (fun W (hS : Std W) => powN_any W (x + y) N d hxy (by omega) (by omega) (by omega) hS)
  have hal : (((x + y) ^ N : Nat) : Int).natAbs < Big := by rw [Int.natAbs_natCast]; exact big_of_le (powle hxy (Nat.le_refl _)) (by omega)
  have HAL := hide hal
  have hal0 : (((x + y) ^ N : Nat) : Int) ≠ 0 := by have := Nat.pow_pos (n := N) hxyp; omega
  have HAL0 := hide hal0
  have hsm : sumN (fun k => bin N k * (x ^ k * y ^ (N - k))) (C + 1) < 10 ^ (d * N + 1) := by
    have h1 := proN_lt (x := x) (y := y) hC
    have h2 : (x + y) ^ N ≤ 10 ^ (d * N) := powle hxy (Nat.le_refl _)
    have h3 : (10 : Nat) ^ (d * N) < 10 ^ (d * N + 1) := Nat.pow_lt_pow_right (by omega) (by omega)
    unfold proN at h1
    omega
  have HSM := hide hsm
  have HQ : Hid (proQ x y N C = Rat.divInt ((sumN (fun k => bin N k * (x ^ k * y ^ (N - k))) (C + 1) : Nat) : Int) (((x + y) ^ N : Nat) : Int)) := hide rfl
  have HXY := hide hxy
  have HDN := hide hdN
  obtain ⟨dn, hdn⟩ : ∃ dn, x + y = dn := ⟨_, rfl⟩
  rw [hdn] at HP HD HPW HAL HAL0 HQ
  obtain ⟨AL, hAL⟩ : ∃ AL : Int, ((dn ^ N : Nat) : Int) = AL := ⟨_, rfl⟩
  rw [hAL] at HPW HAL HAL0 HQ
  clear hdn hAL
  clear hs h01 hd1 hqF hyB hxB hxyB hu hal hal0 hsm ha hn hden hxyp hdN hxy
  have HB := allocs_below w [.cells #[.int .i64 (N : Int), .int .i64 (C : Int)] 30]
  have K_p : Blk (allocs w [.cells #[.int .i64 (N : Int), .int .i64 (C : Int)] 30]) (w.heap.size + 0) 30 #[.int .i64 (N : Int), .int .i64 (C : Int)] := allocs_at w [.cells #[.int .i64 (N : Int), .int .i64 (C : Int)] 30] 0 rfl
  unfold allocs at HB K_p
  simp only [List.foldl_cons, List.foldl_nil] at HB K_p
  rw [Nat.add_zero] at K_p
  go_enter Tryz.func25, Tryz.ntmps25
  go_upto_region 1 with (fail)
  generalize (w.alloc (.cells #[.int .i64 (N : Int), .int .i64 (C : Int)] 30)) = w0 at *
  replace K_p := hide K_p
  replace HB := hide HB
  have p0 := (Blk.cell K_p.out 0).trans (rfl : _ = some (Value.int .i64 (N : Int)))
  have p1 := (Blk.cell K_p.out 1).trans (rfl : _ = some (Value.int .i64 (C : Int)))
  go_wp2_with fail
  refine (HC.out _).mono ?_
  rintro e w1 ⟨rfl, hb⟩
  clear p0 p1
  replace K_p := hide (Blk.below K_p.out hb (Blk.lt K_p.out))
  replace HB := hide (HB.out.trans (hb.mono HB.out.size))
  clear hb
  go_wp2_with fail
  refine (HU.out _ (HS.out.below HB.out (Nat.le_refl _))).mono ?_
  rintro e w2 ⟨rfl, hb⟩
  replace K_p := hide (Blk.below K_p.out hb (Blk.lt K_p.out))
  replace HB := hide (HB.out.trans (hb.mono HB.out.size))
  clear hb
  go_wp2_with fail
  refine (HP.out _ (HS.out.below HB.out (Nat.le_refl _))).mono ?_
  rintro e w3 ⟨rfl, hb⟩
  replace K_p := hide (Blk.below K_p.out hb (Blk.lt K_p.out))
  replace HB := hide (HB.out.trans (hb.mono HB.out.size))
  clear hb
  go_upto_region 8 with (fail)
  have lt_x_p : w.heap.size < w3.heap.size := Blk.lt K_p.out
  replace K_p := K_p.out.alloc (.cells #[.string ⟨(T ((x : Nat) : Int)).toArray⟩] 63)
  replace HB := HB.out.alloc HB.out.size (.cells #[.string ⟨(T ((x : Nat) : Int)).toArray⟩] 63)
  have K_x := Blk.new w3 63 #[.string ⟨(T ((x : Nat) : Int)).toArray⟩]
  generalize w3.alloc (.cells #[.string ⟨(T ((x : Nat) : Int)).toArray⟩] 63) = wb at *
  replace K_p := hide K_p
  replace K_x := hide K_x
  replace HB := hide HB
  have x0 := (Blk.cell K_x.out 0).trans (rfl : _ = some (Value.string ⟨(T ((x : Nat) : Int)).toArray⟩))
  go_wp2_with fail
  refine (HD.out _ (HS.out.below HB.out (Nat.le_refl _))).mono ?_
  rintro e w4 ⟨rfl, hb⟩
  clear x0
  replace K_p := hide (Blk.below K_p.out hb (Blk.lt K_p.out))
  replace K_x := hide (Blk.below K_x.out hb (Blk.lt K_x.out))
  replace HB := hide (HB.out.trans (hb.mono HB.out.size))
  clear hb
  go_upto_region 11 with (fail)
  have lt_y_p : w.heap.size < w4.heap.size := Blk.lt K_p.out
  have lt_y_x : w3.heap.size < w4.heap.size := Blk.lt K_x.out
  replace K_p := K_p.out.alloc (.cells #[.string ⟨(T ((y : Nat) : Int)).toArray⟩] 63)
  replace K_x := K_x.out.alloc (.cells #[.string ⟨(T ((y : Nat) : Int)).toArray⟩] 63)
  replace HB := HB.out.alloc HB.out.size (.cells #[.string ⟨(T ((y : Nat) : Int)).toArray⟩] 63)
  have K_y := Blk.new w4 63 #[.string ⟨(T ((y : Nat) : Int)).toArray⟩]
  generalize w4.alloc (.cells #[.string ⟨(T ((y : Nat) : Int)).toArray⟩] 63) = wd at *
  replace K_p := hide K_p
  replace K_x := hide K_x
  replace K_y := hide K_y
  replace HB := hide HB
  have p0 := (Blk.cell K_p.out 0).trans (rfl : _ = some (Value.int .i64 (N : Int)))
  have p1 := (Blk.cell K_p.out 1).trans (rfl : _ = some (Value.int .i64 (C : Int)))
  go_wp2_with fail
  refine (HPW.out _ (HS.out.below HB.out (Nat.le_refl _))).mono ?_
  rintro e w5 ⟨rfl, hb⟩
  clear p0 p1
  replace K_p := hide (Blk.below K_p.out hb (Blk.lt K_p.out))
  replace K_x := hide (Blk.below K_x.out hb (Blk.lt K_x.out))
  replace K_y := hide (Blk.below K_y.out hb (Blk.lt K_y.out))
  replace HB := hide (HB.out.trans (hb.mono HB.out.size))
  clear hb
  have HCT := hide (total_any w5 C (d * N + 1) AL 63 #[.pointer (some ⟨w.heap.size, 0, none⟩), .pointer (some ⟨w3.heap.size, 0, none⟩), .pointer (some ⟨w4.heap.size, 0, none⟩)] (enters_of Tryz.func63 (by kernel_rfl) rfl) (fun k => bin N k * (x ^ k * y ^ (N - k))) (fun k hk W' hb => binom1_any W' N C x y d k _ _ _ (Blk.below K_p.out hb (Blk.lt K_p.out)) (Blk.below K_x.out hb (Blk.lt K_x.out)) (Blk.below K_y.out hb (Blk.lt K_y.out)) HXY.out HDN.out h1N (by omega) hN ((HS.out.below HB.out (Nat.le_refl _)).below hb (Nat.le_refl _))) (by have := HDN.out; omega) HSM.out HAL0.out HAL.out (by omega) (HS.out.below HB.out (Nat.le_refl _)))
  have p0 := (Blk.cell K_p.out 0).trans (rfl : _ = some (Value.int .i64 (N : Int)))
  have p1 := (Blk.cell K_p.out 1).trans (rfl : _ = some (Value.int .i64 (C : Int)))
  go_wp2_with fail
  refine HCT.out.mono ?_
  rintro e w19 ⟨rfl, hb⟩
  clear HCT
  clear p0 p1
  replace K_p := hide (Blk.below K_p.out hb (Blk.lt K_p.out))
  replace K_x := hide (Blk.below K_x.out hb (Blk.lt K_x.out))
  replace K_y := hide (Blk.below K_y.out hb (Blk.lt K_y.out))
  replace HB := hide (HB.out.trans (hb.mono HB.out.size))
  clear hb
  go_wp2_with fail
  go_ret2
  exact ⟨by rw [HQ.out]; rfl, HB.out⟩

end Go.Proofs.YtaccdkbofhlbkaaGreatDoor
