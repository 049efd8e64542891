/- slices.ContainsFunc of numbers; ProfileGrows: the walk. -/
import Derived.Test.YtendaaghmeoddaaGreatDoorPsides
import Derived.Test.YtendaaghmeoddaaGreatDoorPgrowf
import Derived.BigQuiet
namespace Go.Proofs.YtendaaghmeoddaaGreatDoor
open Go.RowKit MLab

set_option maxRecDepth 100000 in
theorem growsf_any (w : World) (B : Nat) (t : TypeId) (u : Value) (l : List Nat) (k : Nat) (hL : l.length ≤ 1000000000000) (hK : Blk w B t #[u]) (hu : IxL w u l) (hk : k ∈ l) :
    Calls Tryz.prog 39 #[.int .i64 (k : Int), .pointer (some ⟨B, 0, none⟩)] w fun e w' => e = .returned (.bool false) ∧ Below w.heap.size w w' := by
  have c0 := Blk.cell hK 0
  have HC := hide (contains37_any w u l k hL hu)
  have HD := hide (decide_eq_true hk)
  obtain ⟨A, c, rfl⟩ := hu.shape
  clear hK hu hk
  go_enter Tryz.func39, Tryz.ntmps39
  go_wp2_with fail
  refine HC.out.mono ?_
  rw [HD.out]
  rintro e w1 ⟨rfl, hb1⟩
  have HB := hide hb1
  clear hb1 c0
  go_wp2_with fail
  go_ret
  exact ⟨rfl, HB.out⟩

set_option maxRecDepth 100000 in
set_option maxHeartbeats 2000000 in
/-- IndexFunc with a test that all elements fail. -/
theorem indexf_none (w : World) (u : Value) (l : List Nat) (FN : FuncId) (caps : Array Value) (hen : ∀ args w, (callFunc FN args).run Tryz.prog w = .ok (.enter FN args) w) (hL : l.length ≤ 1000000000000) (hu : IxL w u l)
    (hT : ∀ k, k ∈ l → ∀ W, Below w.heap.size w W → Calls Tryz.prog FN (#[.int .i64 (k : Int)] ++ caps) W fun e W' => e = .returned (.bool false) ∧ Below W.heap.size W W') :
    Calls Tryz.prog 73 #[u, .func (.func FN) #[] caps] w fun e w' => e = .returned (.int .i64 (-1)) ∧ Below w.heap.size w w' := by
  obtain ⟨A, c, rfl, hc⟩ := hu
  have HC := hide hc
  have HT := hide hT
  clear hc hT
  go_enter Tryz.func73, Tryz.ntmps73
  go_wp2_with fail
  go_loopg [8] l.length (fun q iv wr => ∃ j : Nat, iv = .int .i64 (j : Int) ∧ q + j = l.length ∧ Below w.heap.size w wr)
  case atStart => exact ⟨0, rfl, rfl, Below.refl _ _⟩
  case round =>
    obtain ⟨j, rfl, hq, hb⟩ := hrel
    have hj : j ≤ l.length := by omega
    have HQ := hide hq
    have HB := hide hb
    clear hq hb
    by_cases hlt : j < l.length
    · have hji : (j : Int) < (l.length : Int) := by omega
      have hj0 : (0 : Int) ≤ (j : Int) := by omega
      obtain ⟨g, hA, hcell⟩ := HC.out (by omega)
      subst hA
      obtain ⟨x, hx⟩ : ∃ x, l[j]? = some x := ⟨_, List.getElem?_eq_getElem hlt⟩
      have a := hcell j x hx
      have a2 := (bcell HB.out _ _ (block_lt_of_cell a)).trans a
      have HX := hide (HT.out x (List.mem_of_getElem? hx) wr HB.out)
      clear a hcell HC hx HT
      go_wp2_with fail
      refine HX.out.mono ?_
      rintro e w2 ⟨rfl, hb2⟩
      have HB2 := hide (HB.out.trans (hb2.mono HB.out.size))
      clear hb2 a2 HX
      go_wp2_with fail
      go_roundg (gk - 1)
      case measure => have := HQ.out; omega
      case rel => exact ⟨j + 1, by go_num, by have := HQ.out; omega, HB2.out⟩
    · have hji : ¬ (j : Int) < (l.length : Int) := by omega
      go_wp2_with fail
      go_ret
      exact ⟨rfl, HB.out⟩

set_option maxRecDepth 100000 in
theorem containsf_none (w : World) (u : Value) (l : List Nat) (FN : FuncId) (caps : Array Value) (hen : ∀ args w, (callFunc FN args).run Tryz.prog w = .ok (.enter FN args) w) (hL : l.length ≤ 1000000000000) (hu : IxL w u l)
    (hT : ∀ k, k ∈ l → ∀ W, Below w.heap.size w W → Calls Tryz.prog FN (#[.int .i64 (k : Int)] ++ caps) W fun e W' => e = .returned (.bool false) ∧ Below W.heap.size W W') :
    Calls Tryz.prog 38 #[u, .func (.func FN) #[] caps] w fun e w' => e = .returned (.bool false) ∧ Below w.heap.size w w' := by
  have HI := hide (indexf_none w u l FN caps hen hL hu hT)
  obtain ⟨A, c, rfl⟩ := hu.shape
  clear hu hT
  go_enter Tryz.func38, Tryz.ntmps38
  go_wp2_with fail
  refine HI.out.mono ?_
  rintro e w1 ⟨rfl, hb1⟩
  have HB := hide hb1
  clear hb1 HI
  go_wp2_with fail
  go_ret
  exact ⟨rfl, HB.out⟩

set_option maxRecDepth 100000 in
set_option maxHeartbeats 8000000 in
theorem grows_short (w : World) (v : Value) (L : List S2) (c0 : Bool) (hv : Pts w v L) (vp : Value) (P : List S2) (hvp : Pts w vp P) (t : Int) (ht : 0 ≤ t ∧ t < 256) (hs : Std w) (h8 : L.length ≤ 8) (hc : chkP L c0 = 0) (hP0 : 0 < P.length) (hP8 : P.length ≤ 8) (hk : chkPtsN P = 0) (h3 : L.length < 3) :
    Calls Tryz.prog 9 #[.agg #[v, .bool c0], vp, .int .u8 t] w fun e w' => e = .returned (.bool true) ∧ Below w.heap.size w w' := by
  have HV := hide hv
  have HVP := hide hvp
  have HS := hide hs
  obtain ⟨A, c, rfl, _⟩ := id hv
  obtain ⟨A2, c2, rfl, hpc⟩ := id hvp
  have HPC := hide hpc
  clear hv hs hvp hpc
  have HB := allocs_below w [.cells #[.slice A L.length c, .bool c0] 34]
  have K_x : Blk (allocs w [.cells #[.slice A L.length c, .bool c0] 34]) (w.heap.size + 0) 34 #[.slice A L.length c, .bool c0] := allocs_at w [.cells #[.slice A L.length c, .bool c0] 34] 0 rfl
  unfold allocs at HB K_x
  simp only [List.foldl_cons, List.foldl_nil] at HB K_x
  rw [Nat.add_zero] at K_x
  obtain ⟨la, lb, W, i, n, e1, l1, e2, l2, q1, z1, z2, hwv, hiP, hsz, hcv, hor⟩ := grows_facts hc hk hP0 ht.1 ht.2
  have hL : L.length ≤ 1000000000000 := by omega
  have hPl : P.length ≤ 1000000000000 := by omega
  have hi : ¬ 8 < (L.length : Int) := by omega
  have hi2 : ¬ 8 < (P.length : Int) := by omega
  have hn0 : ((P.length : Int) == 0) = false := by rw [beq_eq_false_iff_ne]; omega
  have hi3 : ¬ (i : Int) < 0 := by omega
  have hi4 : ¬ (P.length : Int) ≤ (i : Int) := by omega
  have h64 : IntKind.i64.wrap t = t := IntWalk.i64_in _ (by omega)
  have h65 : IntKind.i64.wrap (t + 1) = t + 1 := IntWalk.i64_in _ (by omega)
  have htt0 : 0 ≤ t * t := Int.mul_nonneg ht.1 ht.1
  have htt1 : t * t ≤ 256 * 256 := Int.mul_le_mul (by omega) (by omega) ht.1 (by omega)
  have h66 : IntKind.i64.wrap (t * t) = t * t := IntWalk.i64_in _ (by omega)
  have HCK := hide (fun w => rrcheck_any w ⟨(RT W).toArray⟩ (RT W) rfl (by
    rw [Lib.size_eq]; exact Nat.le_trans (RT_len (hsz.fit (by decide) (by decide))) (by decide)))
  rw [chkR_RT (hsz.fit (by decide) (by decide))] at HCK
  have HX4 := hide (fun w => rqtimes_any w ⟨#[52]⟩ ⟨(RT W).toArray⟩ 4 W (by rw [rt4]) rfl (m := 30) (by omega) (Sz.mono (show Sz 1 0 (4 : Rat) from (Sz.int (a := 1) (n := 4) (by decide))) (by omega) (by omega)) hsz)
  have HX5 := hide (fun w => r2whole_any (t * t) (by omega) (by omega) w)
  have z4 : Sz 32 31 (4 * W) := (Sz.mul ((Sz.int (a := 1) (n := 4) (by decide)) : Sz 1 0 ((4 : Int) : Rat)) hsz).mono (by omega) (by omega)
  have z5 : Sz 32 31 ((t * t : Int) : Rat) := (Sz.int (a := 10) (by have : (10 : Nat) ^ 10 = 10000000000 := by decide
                                                                    omega)).mono (by omega) (by omega)
  have HX6 := hide (fun w (hS : Std w) => rcompare_any w ⟨(RT (4 * W)).toArray⟩ ⟨(RT ((t * t : Int) : Rat)).toArray⟩ (4 * W) ((t * t : Int) : Rat) rfl rfl (z4.fit (by decide) (by decide)) (z5.fit (by decide) (by decide)) hS)
  rw [hcv] at HX6
  have HK := hide hc
  have HK2 := hide hk
  have E1 := hide e1
  have E2 := hide e2
  have L1 := hide l1
  have L2 := hide l2
  have Q1 := hide q1
  have HWV := hide hwv
  obtain ⟨sW, hsW⟩ : ∃ s : ByteArray, (⟨(RT W).toArray⟩ : ByteArray) = s := ⟨_, rfl⟩
  obtain ⟨s4, hs4⟩ : ∃ s : ByteArray, (⟨(RT (4 * W)).toArray⟩ : ByteArray) = s := ⟨_, rfl⟩
  obtain ⟨s5, hs5⟩ : ∃ s : ByteArray, (⟨(RT ((t * t : Int) : Rat)).toArray⟩ : ByteArray) = s := ⟨_, rfl⟩
  rw [hsW] at HWV HCK HX4
  rw [hs4] at HX4 HX6
  rw [hs5] at HX5 HX6
  have z1' : la.length ≤ 1000000000000 := by omega
  have z2' : lb.length ≤ 1000000000000 := by omega
  have hl3 : (L.length : Int) < 3 := by omega
  clear hc hk e1 e2 l1 l2 q1 hwv hcv hsW hs4 hs5 z4 z5 hsz htt0 htt1
  clear h3
  go_enter Tryz.func9, Tryz.ntmps9
  go_upto_region 1 with (fail)
  generalize (w.alloc (.cells #[.slice A L.length c, .bool c0] 34)) = w0 at *
  replace K_x := hide K_x
  replace HB := hide HB
  have x0 := (Blk.cell K_x.out 0).trans (rfl : _ = some (Value.slice A L.length c))
  have x1 := (Blk.cell K_x.out 1).trans (rfl : _ = some (Value.bool c0))
  go_wp2_with fail
  refine (rpcheck_any _ _ L c0 (HV.out.below HB.out) (by omega)).mono ?_
  rw [HK.out]
  rintro e w1 ⟨rfl, hb⟩
  clear x0 x1
  replace K_x := hide (Blk.below K_x.out hb (Blk.lt K_x.out))
  replace HB := hide (HB.out.trans (hb.mono HB.out.size))
  clear hb
  have x0 := (Blk.cell K_x.out 0).trans (rfl : _ = some (Value.slice A L.length c))
  have x1 := (Blk.cell K_x.out 1).trans (rfl : _ = some (Value.bool c0))
  go_wp2_with fail
  refine (rCheck_any _ _ P (HVP.out.below HB.out) (by omega)).mono ?_
  rw [HK2.out]
  rintro e w2 ⟨rfl, hb⟩
  clear x0 x1
  replace K_x := hide (Blk.below K_x.out hb (Blk.lt K_x.out))
  replace HB := hide (HB.out.trans (hb.mono HB.out.size))
  clear hb
  have x0 := (Blk.cell K_x.out 0).trans (rfl : _ = some (Value.slice A L.length c))
  have x1 := (Blk.cell K_x.out 1).trans (rfl : _ = some (Value.bool c0))
  go_wp2_with fail
  refine (pout_any _ _ L c0 _ P t (HV.out.below HB.out) (HVP.out.below HB.out) hL hPl (HS.out.below HB.out (Nat.le_refl _))).mono ?_
  rw [E1.out, L1.out]
  rintro e w3 ⟨⟨u_IA, rfl, hin_IA⟩, hb⟩
  obtain ⟨A_IA, c_IA, rfl⟩ := hin_IA.shape
  have HIA := hide hin_IA
  clear hin_IA
  clear x0 x1
  replace K_x := hide (Blk.below K_x.out hb (Blk.lt K_x.out))
  replace HB := hide (HB.out.trans (hb.mono HB.out.size))
  clear hb
  have x0 := (Blk.cell K_x.out 0).trans (rfl : _ = some (Value.slice A L.length c))
  have x1 := (Blk.cell K_x.out 1).trans (rfl : _ = some (Value.bool c0))
  go_upto_region 4 with (fail)
  clear x0 x1
  have lt_a_x : w.heap.size < w3.heap.size := Blk.lt K_x.out
  replace K_x := K_x.out.alloc (.cells #[.slice A_IA la.length c_IA] 48)
  replace HB := HB.out.alloc HB.out.size (.cells #[.slice A_IA la.length c_IA] 48)
  have K_a := Blk.new w3 48 #[.slice A_IA la.length c_IA]
  replace HIA := HIA.out.below ((Below.refl w3.heap.size w3).alloc (Nat.le_refl _) (.cells #[.slice A_IA la.length c_IA] 48))
  generalize w3.alloc (.cells #[.slice A_IA la.length c_IA] 48) = wa at *
  replace K_x := hide K_x
  replace K_a := hide K_a
  replace HB := hide HB
  replace HIA := hide HIA
  have x0 := (Blk.cell K_x.out 0).trans (rfl : _ = some (Value.slice A L.length c))
  have x1 := (Blk.cell K_x.out 1).trans (rfl : _ = some (Value.bool c0))
  go_wp2_with fail
  refine (pout_any _ _ L c0 _ P (t + 1) (HV.out.below HB.out) (HVP.out.below HB.out) hL hPl (HS.out.below HB.out (Nat.le_refl _))).mono ?_
  rw [E2.out, L2.out]
  rintro e w4 ⟨⟨u_IB, rfl, hin_IB⟩, hb⟩
  obtain ⟨A_IB, c_IB, rfl⟩ := hin_IB.shape
  have HIB := hide hin_IB
  clear hin_IB
  clear x0 x1
  replace K_x := hide (Blk.below K_x.out hb (Blk.lt K_x.out))
  replace K_a := hide (Blk.below K_a.out hb (Blk.lt K_a.out))
  replace HB := hide (HB.out.trans (hb.mono HB.out.size))
  replace HIA := hide (HIA.out.below hb)
  clear hb
  have x0 := (Blk.cell K_x.out 0).trans (rfl : _ = some (Value.slice A L.length c))
  have x1 := (Blk.cell K_x.out 1).trans (rfl : _ = some (Value.bool c0))
  go_wp2_with fail
  refine (pwor_any _ _ L c0 _ P (HV.out.below HB.out) (HVP.out.below HB.out) hL hPl (HS.out.below HB.out (Nat.le_refl _))).mono ?_
  rw [HWV.out]
  rintro e w5 ⟨rfl, hb⟩
  clear x0 x1
  replace K_x := hide (Blk.below K_x.out hb (Blk.lt K_x.out))
  replace K_a := hide (Blk.below K_a.out hb (Blk.lt K_a.out))
  replace HB := hide (HB.out.trans (hb.mono HB.out.size))
  replace HIA := hide (HIA.out.below hb)
  replace HIB := hide (HIB.out.below hb)
  clear hb
  go_wp2_with fail
  refine (HCK.out _).mono ?_
  rintro e w6 ⟨rfl, hb⟩
  replace K_x := hide (Blk.below K_x.out hb (Blk.lt K_x.out))
  replace K_a := hide (Blk.below K_a.out hb (Blk.lt K_a.out))
  replace HB := hide (HB.out.trans (hb.mono HB.out.size))
  replace HIA := hide (HIA.out.below hb)
  replace HIB := hide (HIB.out.below hb)
  clear hb
  have HCF := hide (containsf_none w6 _ lb 39 #[.pointer (some ⟨w3.heap.size, 0, none⟩)] (enters_of Tryz.func39 (by kernel_rfl) rfl) z2' HIB.out (fun k hk W' hb => growsf_any W' _ _ _ la k z1' (Blk.below K_a.out hb (Blk.lt K_a.out)) (HIA.out.below hb) (Q1.out k hk)))
  go_wp2_with fail
  refine (HCF.out).mono ?_
  rintro e w7 ⟨rfl, hb⟩
  replace K_x := hide (Blk.below K_x.out hb (Blk.lt K_x.out))
  replace K_a := hide (Blk.below K_a.out hb (Blk.lt K_a.out))
  replace HB := hide (HB.out.trans (hb.mono HB.out.size))
  replace HIA := hide (HIA.out.below hb)
  replace HIB := hide (HIB.out.below hb)
  clear hb
  clear HCF
  go_wp2_with fail
  refine (HX4.out _).mono ?_
  rintro e w8 ⟨rfl, hb⟩
  replace K_x := hide (Blk.below K_x.out hb (Blk.lt K_x.out))
  replace K_a := hide (Blk.below K_a.out hb (Blk.lt K_a.out))
  replace HB := hide (HB.out.trans (hb.mono HB.out.size))
  replace HIA := hide (HIA.out.below hb)
  replace HIB := hide (HIB.out.below hb)
  clear hb
  go_wp2_with fail
  refine (HX5.out _).mono ?_
  rintro e w9 ⟨rfl, hb⟩
  replace K_x := hide (Blk.below K_x.out hb (Blk.lt K_x.out))
  replace K_a := hide (Blk.below K_a.out hb (Blk.lt K_a.out))
  replace HB := hide (HB.out.trans (hb.mono HB.out.size))
  replace HIA := hide (HIA.out.below hb)
  replace HIB := hide (HIB.out.below hb)
  clear hb
  go_wp2_with fail
  refine (HX6.out _ (HS.out.below HB.out (Nat.le_refl _))).mono ?_
  rintro e w10 ⟨rfl, hb⟩
  replace K_x := hide (Blk.below K_x.out hb (Blk.lt K_x.out))
  replace K_a := hide (Blk.below K_a.out hb (Blk.lt K_a.out))
  replace HB := hide (HB.out.trans (hb.mono HB.out.size))
  replace HIA := hide (HIA.out.below hb)
  replace HIB := hide (HIB.out.below hb)
  clear hb
  rcases hor with ⟨hpos, hin⟩ | ⟨hneg, hin, rfl⟩
  · skip
    have hnp : 0 < n := hpos
    have HD := hide (decide_eq_true hin)
    clear hpos hin
    have a0 := (Blk.cell K_a.out 0).trans (rfl : _ = some (Value.slice A_IA la.length c_IA))
    go_wp2_with fail
    refine (contains37_any _ _ la i z1' HIA.out).mono ?_
    rw [HD.out]
    rintro e w11 ⟨rfl, hb⟩
    clear a0
    replace K_x := hide (Blk.below K_x.out hb (Blk.lt K_x.out))
    replace K_a := hide (Blk.below K_a.out hb (Blk.lt K_a.out))
    replace HB := hide (HB.out.trans (hb.mono HB.out.size))
    replace HIA := hide (HIA.out.below hb)
    replace HIB := hide (HIB.out.below hb)
    clear hb
    have hnn : ¬ n ≤ 0 := by omega
    have x0 := (Blk.cell K_x.out 0).trans (rfl : _ = some (Value.slice A L.length c))
    have x1 := (Blk.cell K_x.out 1).trans (rfl : _ = some (Value.bool c0))
    go_upto_region 13 with (fail)
    go_quiet (fail)
    have hbd := below_drewN (Below.refl w11.heap.size w11) nq
    generalize w11.drewN nq = wdq at *
    clear x0 x1
    replace K_x := hide (Blk.below K_x.out hbd (Blk.lt K_x.out))
    replace K_a := hide (Blk.below K_a.out hbd (Blk.lt K_a.out))
    replace HB := hide (HB.out.trans (hbd.mono HB.out.size))
    replace HIA := hide (HIA.out.below hbd)
    replace HIB := hide (HIB.out.below hbd)
    clear hbd
    go_wp2_with fail
    refine (awake_any _ (HS.out.below HB.out (Nat.le_refl _))).mono ?_
    rintro e w12 ⟨rfl, hb⟩
    replace K_x := hide (Blk.below K_x.out hb (Blk.lt K_x.out))
    replace K_a := hide (Blk.below K_a.out hb (Blk.lt K_a.out))
    replace HB := hide (HB.out.trans (hb.mono HB.out.size))
    replace HIA := hide (HIA.out.below hb)
    replace HIB := hide (HIB.out.below hb)
    clear hb
    go_wp2_with fail
    go_ret
    exact ⟨rfl, HB.out⟩
  · skip
    have hnp : ¬ 0 < n := by omega
    have HD := hide (decide_eq_false hin)
    clear hin
    have a0 := (Blk.cell K_a.out 0).trans (rfl : _ = some (Value.slice A_IA 0 c_IA))
    go_wp2_with fail
    refine (contains37_any _ _ [] i z1' HIA.out).mono ?_
    rw [HD.out]
    rintro e w11 ⟨rfl, hb⟩
    clear a0
    replace K_x := hide (Blk.below K_x.out hb (Blk.lt K_x.out))
    replace K_a := hide (Blk.below K_a.out hb (Blk.lt K_a.out))
    replace HB := hide (HB.out.trans (hb.mono HB.out.size))
    replace HIA := hide (HIA.out.below hb)
    replace HIB := hide (HIB.out.below hb)
    clear hb
    have a0 := (Blk.cell K_a.out 0).trans (rfl : _ = some (Value.slice A_IA 0 c_IA))
    have x0 := (Blk.cell K_x.out 0).trans (rfl : _ = some (Value.slice A L.length c))
    have x1 := (Blk.cell K_x.out 1).trans (rfl : _ = some (Value.bool c0))
    go_upto_region 13 with (fail)
    go_quiet (fail)
    have hbd := below_drewN (Below.refl w11.heap.size w11) nq
    generalize w11.drewN nq = wdq at *
    clear a0 x0 x1
    replace K_x := hide (Blk.below K_x.out hbd (Blk.lt K_x.out))
    replace K_a := hide (Blk.below K_a.out hbd (Blk.lt K_a.out))
    replace HB := hide (HB.out.trans (hbd.mono HB.out.size))
    replace HIA := hide (HIA.out.below hbd)
    replace HIB := hide (HIB.out.below hbd)
    clear hbd
    go_wp2_with fail
    refine (awake_any _ (HS.out.below HB.out (Nat.le_refl _))).mono ?_
    rintro e w12 ⟨rfl, hb⟩
    replace K_x := hide (Blk.below K_x.out hb (Blk.lt K_x.out))
    replace K_a := hide (Blk.below K_a.out hb (Blk.lt K_a.out))
    replace HB := hide (HB.out.trans (hb.mono HB.out.size))
    replace HIA := hide (HIA.out.below hb)
    replace HIB := hide (HIB.out.below hb)
    clear hb
    go_wp2_with fail
    go_ret
    exact ⟨rfl, HB.out⟩

set_option maxRecDepth 100000 in
set_option maxHeartbeats 8000000 in
theorem grows_eq (w : World) (v : Value) (L : List S2) (c0 : Bool) (hv : Pts w v L) (vp : Value) (P : List S2) (hvp : Pts w vp P) (t : Int) (ht : 0 ≤ t ∧ t < 256) (hs : Std w) (h8 : L.length ≤ 8) (hc : chkP L c0 = 0) (hP0 : 0 < P.length) (hP8 : P.length ≤ 8) (hk : chkPtsN P = 0) (h3 : ¬ L.length < 3) (heq : gP L 0 = gP L (L.length - 1)) :
    Calls Tryz.prog 9 #[.agg #[v, .bool c0], vp, .int .u8 t] w fun e w' => e = .returned (.bool true) ∧ Below w.heap.size w w' := by
  have HV := hide hv
  have HVP := hide hvp
  have HS := hide hs
  obtain ⟨A, c, rfl, _⟩ := id hv
  obtain ⟨A2, c2, rfl, hpc⟩ := id hvp
  have HPC := hide hpc
  clear hv hs hvp hpc
  have HB := allocs_below w [.cells #[.slice A L.length c, .bool c0] 34]
  have K_x : Blk (allocs w [.cells #[.slice A L.length c, .bool c0] 34]) (w.heap.size + 0) 34 #[.slice A L.length c, .bool c0] := allocs_at w [.cells #[.slice A L.length c, .bool c0] 34] 0 rfl
  unfold allocs at HB K_x
  simp only [List.foldl_cons, List.foldl_nil] at HB K_x
  rw [Nat.add_zero] at K_x
  obtain ⟨la, lb, W, i, n, e1, l1, e2, l2, q1, z1, z2, hwv, hiP, hsz, hcv, hor⟩ := grows_facts hc hk hP0 ht.1 ht.2
  have hL : L.length ≤ 1000000000000 := by omega
  have hPl : P.length ≤ 1000000000000 := by omega
  have hi : ¬ 8 < (L.length : Int) := by omega
  have hi2 : ¬ 8 < (P.length : Int) := by omega
  have hn0 : ((P.length : Int) == 0) = false := by rw [beq_eq_false_iff_ne]; omega
  have hi3 : ¬ (i : Int) < 0 := by omega
  have hi4 : ¬ (P.length : Int) ≤ (i : Int) := by omega
  have h64 : IntKind.i64.wrap t = t := IntWalk.i64_in _ (by omega)
  have h65 : IntKind.i64.wrap (t + 1) = t + 1 := IntWalk.i64_in _ (by omega)
  have htt0 : 0 ≤ t * t := Int.mul_nonneg ht.1 ht.1
  have htt1 : t * t ≤ 256 * 256 := Int.mul_le_mul (by omega) (by omega) ht.1 (by omega)
  have h66 : IntKind.i64.wrap (t * t) = t * t := IntWalk.i64_in _ (by omega)
  have HCK := hide (fun w => rrcheck_any w ⟨(RT W).toArray⟩ (RT W) rfl (by
    rw [Lib.size_eq]; exact Nat.le_trans (RT_len (hsz.fit (by decide) (by decide))) (by decide)))
  rw [chkR_RT (hsz.fit (by decide) (by decide))] at HCK
  have HX4 := hide (fun w => rqtimes_any w ⟨#[52]⟩ ⟨(RT W).toArray⟩ 4 W (by rw [rt4]) rfl (m := 30) (by omega) (Sz.mono (show Sz 1 0 (4 : Rat) from (Sz.int (a := 1) (n := 4) (by decide))) (by omega) (by omega)) hsz)
  have HX5 := hide (fun w => r2whole_any (t * t) (by omega) (by omega) w)
  have z4 : Sz 32 31 (4 * W) := (Sz.mul ((Sz.int (a := 1) (n := 4) (by decide)) : Sz 1 0 ((4 : Int) : Rat)) hsz).mono (by omega) (by omega)
  have z5 : Sz 32 31 ((t * t : Int) : Rat) := (Sz.int (a := 10) (by have : (10 : Nat) ^ 10 = 10000000000 := by decide
                                                                    omega)).mono (by omega) (by omega)
  have HX6 := hide (fun w (hS : Std w) => rcompare_any w ⟨(RT (4 * W)).toArray⟩ ⟨(RT ((t * t : Int) : Rat)).toArray⟩ (4 * W) ((t * t : Int) : Rat) rfl rfl (z4.fit (by decide) (by decide)) (z5.fit (by decide) (by decide)) hS)
  rw [hcv] at HX6
  have HK := hide hc
  have HK2 := hide hk
  have E1 := hide e1
  have E2 := hide e2
  have L1 := hide l1
  have L2 := hide l2
  have Q1 := hide q1
  have HWV := hide hwv
  obtain ⟨sW, hsW⟩ : ∃ s : ByteArray, (⟨(RT W).toArray⟩ : ByteArray) = s := ⟨_, rfl⟩
  obtain ⟨s4, hs4⟩ : ∃ s : ByteArray, (⟨(RT (4 * W)).toArray⟩ : ByteArray) = s := ⟨_, rfl⟩
  obtain ⟨s5, hs5⟩ : ∃ s : ByteArray, (⟨(RT ((t * t : Int) : Rat)).toArray⟩ : ByteArray) = s := ⟨_, rfl⟩
  rw [hsW] at HWV HCK HX4
  rw [hs4] at HX4 HX6
  rw [hs5] at HX5 HX6
  have z1' : la.length ≤ 1000000000000 := by omega
  have z2' : lb.length ≤ 1000000000000 := by omega
  have hl3 : ¬ (L.length : Int) < 3 := by omega
  have hl0 : (0 : Int) < (L.length : Int) := by omega
  have hl0n : 0 < L.length := by omega
  have hln1 : ((L.length - 1 : Nat) : Int) < (L.length : Int) := by omega
  have hln0 : (0 : Int) ≤ ((L.length - 1 : Nat) : Int) := by omega
  have hln2 : L.length - 1 < L.length := by omega
  have hw1 : IntKind.i64.wrap ((L.length : Int) - 1) = ((L.length - 1 : Nat) : Int) := (IntWalk.i64_in _ (by omega)).trans (by omega)
  obtain ⟨b, off, rfl, hlc⟩ : ∃ b off, A = some ⟨b, off, none⟩ ∧ ∀ i p, L[i]? = some p → w.cell? ⟨b, off + i * 2, none⟩ = some (.int .i64 p.1) ∧ w.cell? ⟨b, off + i * 2 + 1, none⟩ = some (.int .i64 p.2) := by
    obtain ⟨A', c', hv', hh⟩ := HV.out
    cases hv'
    exact hh hl0n
  obtain ⟨x1, x2, hx⟩ : ∃ u v, gP L 0 = (u, v) := ⟨_, _, rfl⟩
  obtain ⟨y1, y2, hy⟩ : ∃ u v, gP L (L.length - 1) = (u, v) := ⟨_, _, rfl⟩
  obtain ⟨u0, u1⟩ := hlc 0 _ (gP_eq hl0n)
  obtain ⟨v0, v1⟩ := hlc (L.length - 1) _ (gP_eq hln2)
  rw [hx, Nat.zero_mul, Nat.add_zero] at u0 u1
  rw [hy] at v0 v1
  rw [hx, hy] at heq
  obtain ⟨rfl, rfl⟩ : x1 = y1 ∧ x2 = y2 := by simpa using heq
  have HU0 := hide u0
  have HU1 := hide u1
  have HV0 := hide v0
  have HV1 := hide v1
  clear u0 u1 v0 v1 hx hy hlc
  clear hc hk e1 e2 l1 l2 q1 hwv hcv hsW hs4 hs5 z4 z5 hsz htt0 htt1
  clear h3 heq
  go_enter Tryz.func9, Tryz.ntmps9
  go_upto_region 1 with (fail)
  generalize (w.alloc (.cells #[.slice (some ⟨b, off, none⟩) L.length c, .bool c0] 34)) = w0 at *
  replace K_x := hide K_x
  replace HB := hide HB
  have x0 := (Blk.cell K_x.out 0).trans (rfl : _ = some (Value.slice (some ⟨b, off, none⟩) L.length c))
  have x1 := (Blk.cell K_x.out 1).trans (rfl : _ = some (Value.bool c0))
  go_wp2_with fail
  refine (rpcheck_any _ _ L c0 (HV.out.below HB.out) (by omega)).mono ?_
  rw [HK.out]
  rintro e w1 ⟨rfl, hb⟩
  clear x0 x1
  replace K_x := hide (Blk.below K_x.out hb (Blk.lt K_x.out))
  replace HB := hide (HB.out.trans (hb.mono HB.out.size))
  clear hb
  have x0 := (Blk.cell K_x.out 0).trans (rfl : _ = some (Value.slice (some ⟨b, off, none⟩) L.length c))
  have x1 := (Blk.cell K_x.out 1).trans (rfl : _ = some (Value.bool c0))
  go_wp2_with fail
  refine (rCheck_any _ _ P (HVP.out.below HB.out) (by omega)).mono ?_
  rw [HK2.out]
  rintro e w2 ⟨rfl, hb⟩
  clear x0 x1
  replace K_x := hide (Blk.below K_x.out hb (Blk.lt K_x.out))
  replace HB := hide (HB.out.trans (hb.mono HB.out.size))
  clear hb
  have x0 := (Blk.cell K_x.out 0).trans (rfl : _ = some (Value.slice (some ⟨b, off, none⟩) L.length c))
  have x1 := (Blk.cell K_x.out 1).trans (rfl : _ = some (Value.bool c0))
  go_wp2_with fail
  refine (pout_any _ _ L c0 _ P t (HV.out.below HB.out) (HVP.out.below HB.out) hL hPl (HS.out.below HB.out (Nat.le_refl _))).mono ?_
  rw [E1.out, L1.out]
  rintro e w3 ⟨⟨u_IA, rfl, hin_IA⟩, hb⟩
  obtain ⟨A_IA, c_IA, rfl⟩ := hin_IA.shape
  have HIA := hide hin_IA
  clear hin_IA
  clear x0 x1
  replace K_x := hide (Blk.below K_x.out hb (Blk.lt K_x.out))
  replace HB := hide (HB.out.trans (hb.mono HB.out.size))
  clear hb
  have x0 := (Blk.cell K_x.out 0).trans (rfl : _ = some (Value.slice (some ⟨b, off, none⟩) L.length c))
  have x1 := (Blk.cell K_x.out 1).trans (rfl : _ = some (Value.bool c0))
  go_upto_region 4 with (fail)
  clear x0 x1
  have lt_a_x : w.heap.size < w3.heap.size := Blk.lt K_x.out
  replace K_x := K_x.out.alloc (.cells #[.slice A_IA la.length c_IA] 48)
  replace HB := HB.out.alloc HB.out.size (.cells #[.slice A_IA la.length c_IA] 48)
  have K_a := Blk.new w3 48 #[.slice A_IA la.length c_IA]
  replace HIA := HIA.out.below ((Below.refl w3.heap.size w3).alloc (Nat.le_refl _) (.cells #[.slice A_IA la.length c_IA] 48))
  generalize w3.alloc (.cells #[.slice A_IA la.length c_IA] 48) = wa at *
  replace K_x := hide K_x
  replace K_a := hide K_a
  replace HB := hide HB
  replace HIA := hide HIA
  have x0 := (Blk.cell K_x.out 0).trans (rfl : _ = some (Value.slice (some ⟨b, off, none⟩) L.length c))
  have x1 := (Blk.cell K_x.out 1).trans (rfl : _ = some (Value.bool c0))
  go_wp2_with fail
  refine (pout_any _ _ L c0 _ P (t + 1) (HV.out.below HB.out) (HVP.out.below HB.out) hL hPl (HS.out.below HB.out (Nat.le_refl _))).mono ?_
  rw [E2.out, L2.out]
  rintro e w4 ⟨⟨u_IB, rfl, hin_IB⟩, hb⟩
  obtain ⟨A_IB, c_IB, rfl⟩ := hin_IB.shape
  have HIB := hide hin_IB
  clear hin_IB
  clear x0 x1
  replace K_x := hide (Blk.below K_x.out hb (Blk.lt K_x.out))
  replace K_a := hide (Blk.below K_a.out hb (Blk.lt K_a.out))
  replace HB := hide (HB.out.trans (hb.mono HB.out.size))
  replace HIA := hide (HIA.out.below hb)
  clear hb
  have x0 := (Blk.cell K_x.out 0).trans (rfl : _ = some (Value.slice (some ⟨b, off, none⟩) L.length c))
  have x1 := (Blk.cell K_x.out 1).trans (rfl : _ = some (Value.bool c0))
  go_wp2_with fail
  refine (pwor_any _ _ L c0 _ P (HV.out.below HB.out) (HVP.out.below HB.out) hL hPl (HS.out.below HB.out (Nat.le_refl _))).mono ?_
  rw [HWV.out]
  rintro e w5 ⟨rfl, hb⟩
  clear x0 x1
  replace K_x := hide (Blk.below K_x.out hb (Blk.lt K_x.out))
  replace K_a := hide (Blk.below K_a.out hb (Blk.lt K_a.out))
  replace HB := hide (HB.out.trans (hb.mono HB.out.size))
  replace HIA := hide (HIA.out.below hb)
  replace HIB := hide (HIB.out.below hb)
  clear hb
  go_wp2_with fail
  refine (HCK.out _).mono ?_
  rintro e w6 ⟨rfl, hb⟩
  replace K_x := hide (Blk.below K_x.out hb (Blk.lt K_x.out))
  replace K_a := hide (Blk.below K_a.out hb (Blk.lt K_a.out))
  replace HB := hide (HB.out.trans (hb.mono HB.out.size))
  replace HIA := hide (HIA.out.below hb)
  replace HIB := hide (HIB.out.below hb)
  clear hb
  have HCF := hide (containsf_none w6 _ lb 39 #[.pointer (some ⟨w3.heap.size, 0, none⟩)] (enters_of Tryz.func39 (by kernel_rfl) rfl) z2' HIB.out (fun k hk W' hb => growsf_any W' _ _ _ la k z1' (Blk.below K_a.out hb (Blk.lt K_a.out)) (HIA.out.below hb) (Q1.out k hk)))
  go_wp2_with fail
  refine (HCF.out).mono ?_
  rintro e w7 ⟨rfl, hb⟩
  replace K_x := hide (Blk.below K_x.out hb (Blk.lt K_x.out))
  replace K_a := hide (Blk.below K_a.out hb (Blk.lt K_a.out))
  replace HB := hide (HB.out.trans (hb.mono HB.out.size))
  replace HIA := hide (HIA.out.below hb)
  replace HIB := hide (HIB.out.below hb)
  clear hb
  clear HCF
  go_wp2_with fail
  refine (HX4.out _).mono ?_
  rintro e w8 ⟨rfl, hb⟩
  replace K_x := hide (Blk.below K_x.out hb (Blk.lt K_x.out))
  replace K_a := hide (Blk.below K_a.out hb (Blk.lt K_a.out))
  replace HB := hide (HB.out.trans (hb.mono HB.out.size))
  replace HIA := hide (HIA.out.below hb)
  replace HIB := hide (HIB.out.below hb)
  clear hb
  go_wp2_with fail
  refine (HX5.out _).mono ?_
  rintro e w9 ⟨rfl, hb⟩
  replace K_x := hide (Blk.below K_x.out hb (Blk.lt K_x.out))
  replace K_a := hide (Blk.below K_a.out hb (Blk.lt K_a.out))
  replace HB := hide (HB.out.trans (hb.mono HB.out.size))
  replace HIA := hide (HIA.out.below hb)
  replace HIB := hide (HIB.out.below hb)
  clear hb
  go_wp2_with fail
  refine (HX6.out _ (HS.out.below HB.out (Nat.le_refl _))).mono ?_
  rintro e w10 ⟨rfl, hb⟩
  replace K_x := hide (Blk.below K_x.out hb (Blk.lt K_x.out))
  replace K_a := hide (Blk.below K_a.out hb (Blk.lt K_a.out))
  replace HB := hide (HB.out.trans (hb.mono HB.out.size))
  replace HIA := hide (HIA.out.below hb)
  replace HIB := hide (HIB.out.below hb)
  clear hb
  rcases hor with ⟨hpos, hin⟩ | ⟨hneg, hin, rfl⟩
  · skip
    have hnp : 0 < n := hpos
    have HD := hide (decide_eq_true hin)
    clear hpos hin
    have a0 := (Blk.cell K_a.out 0).trans (rfl : _ = some (Value.slice A_IA la.length c_IA))
    go_wp2_with fail
    refine (contains37_any _ _ la i z1' HIA.out).mono ?_
    rw [HD.out]
    rintro e w11 ⟨rfl, hb⟩
    clear a0
    replace K_x := hide (Blk.below K_x.out hb (Blk.lt K_x.out))
    replace K_a := hide (Blk.below K_a.out hb (Blk.lt K_a.out))
    replace HB := hide (HB.out.trans (hb.mono HB.out.size))
    replace HIA := hide (HIA.out.below hb)
    replace HIB := hide (HIB.out.below hb)
    clear hb
    have hnn : ¬ n ≤ 0 := by omega
    have x0 := (Blk.cell K_x.out 0).trans (rfl : _ = some (Value.slice (some ⟨b, off, none⟩) L.length c))
    have x1 := (Blk.cell K_x.out 1).trans (rfl : _ = some (Value.bool c0))
    have u0 := (bcell HB.out _ _ (block_lt_of_cell HU0.out)).trans HU0.out
    have u1 := (bcell HB.out _ _ (block_lt_of_cell HU1.out)).trans HU1.out
    have v0 := (bcell HB.out _ _ (block_lt_of_cell HV0.out)).trans HV0.out
    have v1 := (bcell HB.out _ _ (block_lt_of_cell HV1.out)).trans HV1.out
    go_upto_region 13 with (fail)
    go_quiet (fail)
    clear u0 u1 v0 v1
    have hbd := below_drewN (Below.refl w11.heap.size w11) nq
    generalize w11.drewN nq = wdq at *
    clear x0 x1
    replace K_x := hide (Blk.below K_x.out hbd (Blk.lt K_x.out))
    replace K_a := hide (Blk.below K_a.out hbd (Blk.lt K_a.out))
    replace HB := hide (HB.out.trans (hbd.mono HB.out.size))
    replace HIA := hide (HIA.out.below hbd)
    replace HIB := hide (HIB.out.below hbd)
    clear hbd
    go_wp2_with fail
    refine (awake_any _ (HS.out.below HB.out (Nat.le_refl _))).mono ?_
    rintro e w12 ⟨rfl, hb⟩
    replace K_x := hide (Blk.below K_x.out hb (Blk.lt K_x.out))
    replace K_a := hide (Blk.below K_a.out hb (Blk.lt K_a.out))
    replace HB := hide (HB.out.trans (hb.mono HB.out.size))
    replace HIA := hide (HIA.out.below hb)
    replace HIB := hide (HIB.out.below hb)
    clear hb
    go_wp2_with fail
    go_ret
    exact ⟨rfl, HB.out⟩
  · skip
    have hnp : ¬ 0 < n := by omega
    have HD := hide (decide_eq_false hin)
    clear hin
    have a0 := (Blk.cell K_a.out 0).trans (rfl : _ = some (Value.slice A_IA 0 c_IA))
    go_wp2_with fail
    refine (contains37_any _ _ [] i z1' HIA.out).mono ?_
    rw [HD.out]
    rintro e w11 ⟨rfl, hb⟩
    clear a0
    replace K_x := hide (Blk.below K_x.out hb (Blk.lt K_x.out))
    replace K_a := hide (Blk.below K_a.out hb (Blk.lt K_a.out))
    replace HB := hide (HB.out.trans (hb.mono HB.out.size))
    replace HIA := hide (HIA.out.below hb)
    replace HIB := hide (HIB.out.below hb)
    clear hb
    have a0 := (Blk.cell K_a.out 0).trans (rfl : _ = some (Value.slice A_IA 0 c_IA))
    have x0 := (Blk.cell K_x.out 0).trans (rfl : _ = some (Value.slice (some ⟨b, off, none⟩) L.length c))
    have x1 := (Blk.cell K_x.out 1).trans (rfl : _ = some (Value.bool c0))
    have u0 := (bcell HB.out _ _ (block_lt_of_cell HU0.out)).trans HU0.out
    have u1 := (bcell HB.out _ _ (block_lt_of_cell HU1.out)).trans HU1.out
    have v0 := (bcell HB.out _ _ (block_lt_of_cell HV0.out)).trans HV0.out
    have v1 := (bcell HB.out _ _ (block_lt_of_cell HV1.out)).trans HV1.out
    go_upto_region 13 with (fail)
    go_quiet (fail)
    clear u0 u1 v0 v1
    have hbd := below_drewN (Below.refl w11.heap.size w11) nq
    generalize w11.drewN nq = wdq at *
    clear a0 x0 x1
    replace K_x := hide (Blk.below K_x.out hbd (Blk.lt K_x.out))
    replace K_a := hide (Blk.below K_a.out hbd (Blk.lt K_a.out))
    replace HB := hide (HB.out.trans (hbd.mono HB.out.size))
    replace HIA := hide (HIA.out.below hbd)
    replace HIB := hide (HIB.out.below hbd)
    clear hbd
    go_wp2_with fail
    refine (awake_any _ (HS.out.below HB.out (Nat.le_refl _))).mono ?_
    rintro e w12 ⟨rfl, hb⟩
    replace K_x := hide (Blk.below K_x.out hb (Blk.lt K_x.out))
    replace K_a := hide (Blk.below K_a.out hb (Blk.lt K_a.out))
    replace HB := hide (HB.out.trans (hb.mono HB.out.size))
    replace HIA := hide (HIA.out.below hb)
    replace HIB := hide (HIB.out.below hb)
    clear hb
    go_wp2_with fail
    go_ret
    exact ⟨rfl, HB.out⟩

set_option maxRecDepth 100000 in
set_option maxHeartbeats 8000000 in
theorem grows_nx (w : World) (v : Value) (L : List S2) (c0 : Bool) (hv : Pts w v L) (vp : Value) (P : List S2) (hvp : Pts w vp P) (t : Int) (ht : 0 ≤ t ∧ t < 256) (hs : Std w) (h8 : L.length ≤ 8) (hc : chkP L c0 = 0) (hP0 : 0 < P.length) (hP8 : P.length ≤ 8) (hk : chkPtsN P = 0) (h3 : 3 ≤ L.length) (HNE : gP L 0 ≠ gP L (L.length - 1)) (hxne : (gP L 0).1 ≠ (gP L (L.length - 1)).1) :
    Calls Tryz.prog 9 #[.agg #[v, .bool c0], vp, .int .u8 t] w fun e w' => e = .returned (.bool true) ∧ Below w.heap.size w w' := by
  have HV := hide hv
  have HVP := hide hvp
  have HS := hide hs
  obtain ⟨A, c, rfl, _⟩ := id hv
  obtain ⟨A2, c2, rfl, hpc⟩ := id hvp
  have HPC := hide hpc
  clear hv hs hvp hpc
  have HB := allocs_below w [.cells #[.slice A L.length c, .bool c0] 34]
  have K_x : Blk (allocs w [.cells #[.slice A L.length c, .bool c0] 34]) (w.heap.size + 0) 34 #[.slice A L.length c, .bool c0] := allocs_at w [.cells #[.slice A L.length c, .bool c0] 34] 0 rfl
  unfold allocs at HB K_x
  simp only [List.foldl_cons, List.foldl_nil] at HB K_x
  rw [Nat.add_zero] at K_x
  obtain ⟨la, lb, W, i, n, e1, l1, e2, l2, q1, z1, z2, hwv, hiP, hsz, hcv, hor⟩ := grows_facts hc hk hP0 ht.1 ht.2
  have hL : L.length ≤ 1000000000000 := by omega
  have hPl : P.length ≤ 1000000000000 := by omega
  have hi : ¬ 8 < (L.length : Int) := by omega
  have hi2 : ¬ 8 < (P.length : Int) := by omega
  have hn0 : ((P.length : Int) == 0) = false := by rw [beq_eq_false_iff_ne]; omega
  have hi3 : ¬ (i : Int) < 0 := by omega
  have hi4 : ¬ (P.length : Int) ≤ (i : Int) := by omega
  have h64 : IntKind.i64.wrap t = t := IntWalk.i64_in _ (by omega)
  have h65 : IntKind.i64.wrap (t + 1) = t + 1 := IntWalk.i64_in _ (by omega)
  have htt0 : 0 ≤ t * t := Int.mul_nonneg ht.1 ht.1
  have htt1 : t * t ≤ 256 * 256 := Int.mul_le_mul (by omega) (by omega) ht.1 (by omega)
  have h66 : IntKind.i64.wrap (t * t) = t * t := IntWalk.i64_in _ (by omega)
  have HCK := hide (fun w => rrcheck_any w ⟨(RT W).toArray⟩ (RT W) rfl (by
    rw [Lib.size_eq]; exact Nat.le_trans (RT_len (hsz.fit (by decide) (by decide))) (by decide)))
  rw [chkR_RT (hsz.fit (by decide) (by decide))] at HCK
  have HX4 := hide (fun w => rqtimes_any w ⟨#[52]⟩ ⟨(RT W).toArray⟩ 4 W (by rw [rt4]) rfl (m := 30) (by omega) (Sz.mono (show Sz 1 0 (4 : Rat) from (Sz.int (a := 1) (n := 4) (by decide))) (by omega) (by omega)) hsz)
  have HX5 := hide (fun w => r2whole_any (t * t) (by omega) (by omega) w)
  have z4 : Sz 32 31 (4 * W) := (Sz.mul ((Sz.int (a := 1) (n := 4) (by decide)) : Sz 1 0 ((4 : Int) : Rat)) hsz).mono (by omega) (by omega)
  have z5 : Sz 32 31 ((t * t : Int) : Rat) := (Sz.int (a := 10) (by have : (10 : Nat) ^ 10 = 10000000000 := by decide
                                                                    omega)).mono (by omega) (by omega)
  have HX6 := hide (fun w (hS : Std w) => rcompare_any w ⟨(RT (4 * W)).toArray⟩ ⟨(RT ((t * t : Int) : Rat)).toArray⟩ (4 * W) ((t * t : Int) : Rat) rfl rfl (z4.fit (by decide) (by decide)) (z5.fit (by decide) (by decide)) hS)
  rw [hcv] at HX6
  have HK := hide hc
  have HK2 := hide hk
  have E1 := hide e1
  have E2 := hide e2
  have L1 := hide l1
  have L2 := hide l2
  have Q1 := hide q1
  have HWV := hide hwv
  obtain ⟨sW, hsW⟩ : ∃ s : ByteArray, (⟨(RT W).toArray⟩ : ByteArray) = s := ⟨_, rfl⟩
  obtain ⟨s4, hs4⟩ : ∃ s : ByteArray, (⟨(RT (4 * W)).toArray⟩ : ByteArray) = s := ⟨_, rfl⟩
  obtain ⟨s5, hs5⟩ : ∃ s : ByteArray, (⟨(RT ((t * t : Int) : Rat)).toArray⟩ : ByteArray) = s := ⟨_, rfl⟩
  rw [hsW] at HWV HCK HX4
  rw [hs4] at HX4 HX6
  rw [hs5] at HX5 HX6
  have z1' : la.length ≤ 1000000000000 := by omega
  have z2' : lb.length ≤ 1000000000000 := by omega
  have hl3 : ¬ (L.length : Int) < 3 := by omega
  have hl0 : (0 : Int) < (L.length : Int) := by omega
  have hl0n : 0 < L.length := by omega
  have hln1 : ((L.length - 1 : Nat) : Int) < (L.length : Int) := by omega
  have hln0 : (0 : Int) ≤ ((L.length - 1 : Nat) : Int) := by omega
  have hln2 : L.length - 1 < L.length := by omega
  have hw1 : IntKind.i64.wrap ((L.length : Int) - 1) = ((L.length - 1 : Nat) : Int) := (IntWalk.i64_in _ (by omega)).trans (by omega)
  obtain ⟨b, off, rfl, hlc⟩ : ∃ b off, A = some ⟨b, off, none⟩ ∧ ∀ i p, L[i]? = some p → w.cell? ⟨b, off + i * 2, none⟩ = some (.int .i64 p.1) ∧ w.cell? ⟨b, off + i * 2 + 1, none⟩ = some (.int .i64 p.2) := by
    obtain ⟨A', c', hv', hh⟩ := HV.out
    cases hv'
    exact hh hl0n
  obtain ⟨x1, x2, hx⟩ : ∃ u v, gP L 0 = (u, v) := ⟨_, _, rfl⟩
  obtain ⟨y1, y2, hy⟩ : ∃ u v, gP L (L.length - 1) = (u, v) := ⟨_, _, rfl⟩
  have hne : gP L 0 ≠ gP L (L.length - 1) := HNE
  have HNEAR := hide (fun (x y : Int) (hp : Co x ∧ Co y) => grows_near hc h3 hne hp)
  obtain ⟨u0, u1⟩ := hlc 0 _ (gP_eq hl0n)
  obtain ⟨v0, v1⟩ := hlc (L.length - 1) _ (gP_eq hln2)
  rw [hx, Nat.zero_mul, Nat.add_zero] at u0 u1
  rw [hy] at v0 v1
  have hEX : (x1 = y1) = False := by rw [hx, hy] at hxne; simpa using hxne
  have HU0 := hide u0
  have HU1 := hide u1
  have HV0 := hide v0
  have HV1 := hide v1
  clear u0 u1 v0 v1 hx hy hlc
  have HPR : Hid (RightS P) := hide (by
    rcases chkPtsN_cases P with h | h | ⟨_, h2, h3⟩
    · rw [h] at hk; exact absurd hk (by decide)
    · rw [h] at hk; exact absurd hk (by decide)
    · exact rightS_of_all h3)
  clear hc hk e1 e2 l1 l2 q1 hwv hcv hsW hs4 hs5 z4 z5 hsz htt0 htt1
  clear h3 hne HNE hxne
  go_enter Tryz.func9, Tryz.ntmps9
  go_upto_region 1 with (fail)
  generalize (w.alloc (.cells #[.slice (some ⟨b, off, none⟩) L.length c, .bool c0] 34)) = w0 at *
  replace K_x := hide K_x
  replace HB := hide HB
  have x0 := (Blk.cell K_x.out 0).trans (rfl : _ = some (Value.slice (some ⟨b, off, none⟩) L.length c))
  have x1 := (Blk.cell K_x.out 1).trans (rfl : _ = some (Value.bool c0))
  go_wp2_with fail
  refine (rpcheck_any _ _ L c0 (HV.out.below HB.out) (by omega)).mono ?_
  rw [HK.out]
  rintro e w1 ⟨rfl, hb⟩
  clear x0 x1
  replace K_x := hide (Blk.below K_x.out hb (Blk.lt K_x.out))
  replace HB := hide (HB.out.trans (hb.mono HB.out.size))
  clear hb
  have x0 := (Blk.cell K_x.out 0).trans (rfl : _ = some (Value.slice (some ⟨b, off, none⟩) L.length c))
  have x1 := (Blk.cell K_x.out 1).trans (rfl : _ = some (Value.bool c0))
  go_wp2_with fail
  refine (rCheck_any _ _ P (HVP.out.below HB.out) (by omega)).mono ?_
  rw [HK2.out]
  rintro e w2 ⟨rfl, hb⟩
  clear x0 x1
  replace K_x := hide (Blk.below K_x.out hb (Blk.lt K_x.out))
  replace HB := hide (HB.out.trans (hb.mono HB.out.size))
  clear hb
  have x0 := (Blk.cell K_x.out 0).trans (rfl : _ = some (Value.slice (some ⟨b, off, none⟩) L.length c))
  have x1 := (Blk.cell K_x.out 1).trans (rfl : _ = some (Value.bool c0))
  go_wp2_with fail
  refine (pout_any _ _ L c0 _ P t (HV.out.below HB.out) (HVP.out.below HB.out) hL hPl (HS.out.below HB.out (Nat.le_refl _))).mono ?_
  rw [E1.out, L1.out]
  rintro e w3 ⟨⟨u_IA, rfl, hin_IA⟩, hb⟩
  obtain ⟨A_IA, c_IA, rfl⟩ := hin_IA.shape
  have HIA := hide hin_IA
  clear hin_IA
  clear x0 x1
  replace K_x := hide (Blk.below K_x.out hb (Blk.lt K_x.out))
  replace HB := hide (HB.out.trans (hb.mono HB.out.size))
  clear hb
  have x0 := (Blk.cell K_x.out 0).trans (rfl : _ = some (Value.slice (some ⟨b, off, none⟩) L.length c))
  have x1 := (Blk.cell K_x.out 1).trans (rfl : _ = some (Value.bool c0))
  go_upto_region 4 with (fail)
  clear x0 x1
  have lt_a_x : w.heap.size < w3.heap.size := Blk.lt K_x.out
  replace K_x := K_x.out.alloc (.cells #[.slice A_IA la.length c_IA] 48)
  replace HB := HB.out.alloc HB.out.size (.cells #[.slice A_IA la.length c_IA] 48)
  have K_a := Blk.new w3 48 #[.slice A_IA la.length c_IA]
  replace HIA := HIA.out.below ((Below.refl w3.heap.size w3).alloc (Nat.le_refl _) (.cells #[.slice A_IA la.length c_IA] 48))
  generalize w3.alloc (.cells #[.slice A_IA la.length c_IA] 48) = wa at *
  replace K_x := hide K_x
  replace K_a := hide K_a
  replace HB := hide HB
  replace HIA := hide HIA
  have x0 := (Blk.cell K_x.out 0).trans (rfl : _ = some (Value.slice (some ⟨b, off, none⟩) L.length c))
  have x1 := (Blk.cell K_x.out 1).trans (rfl : _ = some (Value.bool c0))
  go_wp2_with fail
  refine (pout_any _ _ L c0 _ P (t + 1) (HV.out.below HB.out) (HVP.out.below HB.out) hL hPl (HS.out.below HB.out (Nat.le_refl _))).mono ?_
  rw [E2.out, L2.out]
  rintro e w4 ⟨⟨u_IB, rfl, hin_IB⟩, hb⟩
  obtain ⟨A_IB, c_IB, rfl⟩ := hin_IB.shape
  have HIB := hide hin_IB
  clear hin_IB
  clear x0 x1
  replace K_x := hide (Blk.below K_x.out hb (Blk.lt K_x.out))
  replace K_a := hide (Blk.below K_a.out hb (Blk.lt K_a.out))
  replace HB := hide (HB.out.trans (hb.mono HB.out.size))
  replace HIA := hide (HIA.out.below hb)
  clear hb
  have x0 := (Blk.cell K_x.out 0).trans (rfl : _ = some (Value.slice (some ⟨b, off, none⟩) L.length c))
  have x1 := (Blk.cell K_x.out 1).trans (rfl : _ = some (Value.bool c0))
  go_wp2_with fail
  refine (pwor_any _ _ L c0 _ P (HV.out.below HB.out) (HVP.out.below HB.out) hL hPl (HS.out.below HB.out (Nat.le_refl _))).mono ?_
  rw [HWV.out]
  rintro e w5 ⟨rfl, hb⟩
  clear x0 x1
  replace K_x := hide (Blk.below K_x.out hb (Blk.lt K_x.out))
  replace K_a := hide (Blk.below K_a.out hb (Blk.lt K_a.out))
  replace HB := hide (HB.out.trans (hb.mono HB.out.size))
  replace HIA := hide (HIA.out.below hb)
  replace HIB := hide (HIB.out.below hb)
  clear hb
  go_wp2_with fail
  refine (HCK.out _).mono ?_
  rintro e w6 ⟨rfl, hb⟩
  replace K_x := hide (Blk.below K_x.out hb (Blk.lt K_x.out))
  replace K_a := hide (Blk.below K_a.out hb (Blk.lt K_a.out))
  replace HB := hide (HB.out.trans (hb.mono HB.out.size))
  replace HIA := hide (HIA.out.below hb)
  replace HIB := hide (HIB.out.below hb)
  clear hb
  have HCF := hide (containsf_none w6 _ lb 39 #[.pointer (some ⟨w3.heap.size, 0, none⟩)] (enters_of Tryz.func39 (by kernel_rfl) rfl) z2' HIB.out (fun k hk W' hb => growsf_any W' _ _ _ la k z1' (Blk.below K_a.out hb (Blk.lt K_a.out)) (HIA.out.below hb) (Q1.out k hk)))
  go_wp2_with fail
  refine (HCF.out).mono ?_
  rintro e w7 ⟨rfl, hb⟩
  replace K_x := hide (Blk.below K_x.out hb (Blk.lt K_x.out))
  replace K_a := hide (Blk.below K_a.out hb (Blk.lt K_a.out))
  replace HB := hide (HB.out.trans (hb.mono HB.out.size))
  replace HIA := hide (HIA.out.below hb)
  replace HIB := hide (HIB.out.below hb)
  clear hb
  clear HCF
  go_wp2_with fail
  refine (HX4.out _).mono ?_
  rintro e w8 ⟨rfl, hb⟩
  replace K_x := hide (Blk.below K_x.out hb (Blk.lt K_x.out))
  replace K_a := hide (Blk.below K_a.out hb (Blk.lt K_a.out))
  replace HB := hide (HB.out.trans (hb.mono HB.out.size))
  replace HIA := hide (HIA.out.below hb)
  replace HIB := hide (HIB.out.below hb)
  clear hb
  go_wp2_with fail
  refine (HX5.out _).mono ?_
  rintro e w9 ⟨rfl, hb⟩
  replace K_x := hide (Blk.below K_x.out hb (Blk.lt K_x.out))
  replace K_a := hide (Blk.below K_a.out hb (Blk.lt K_a.out))
  replace HB := hide (HB.out.trans (hb.mono HB.out.size))
  replace HIA := hide (HIA.out.below hb)
  replace HIB := hide (HIB.out.below hb)
  clear hb
  go_wp2_with fail
  refine (HX6.out _ (HS.out.below HB.out (Nat.le_refl _))).mono ?_
  rintro e w10 ⟨rfl, hb⟩
  replace K_x := hide (Blk.below K_x.out hb (Blk.lt K_x.out))
  replace K_a := hide (Blk.below K_a.out hb (Blk.lt K_a.out))
  replace HB := hide (HB.out.trans (hb.mono HB.out.size))
  replace HIA := hide (HIA.out.below hb)
  replace HIB := hide (HIB.out.below hb)
  clear hb
  rcases hor with ⟨hpos, hin⟩ | ⟨hneg, hin, rfl⟩
  · skip
    have hnp : 0 < n := hpos
    have HD := hide (decide_eq_true hin)
    clear hpos hin
    have a0 := (Blk.cell K_a.out 0).trans (rfl : _ = some (Value.slice A_IA la.length c_IA))
    go_wp2_with fail
    refine (contains37_any _ _ la i z1' HIA.out).mono ?_
    rw [HD.out]
    rintro e w11 ⟨rfl, hb⟩
    clear a0
    replace K_x := hide (Blk.below K_x.out hb (Blk.lt K_x.out))
    replace K_a := hide (Blk.below K_a.out hb (Blk.lt K_a.out))
    replace HB := hide (HB.out.trans (hb.mono HB.out.size))
    replace HIA := hide (HIA.out.below hb)
    replace HIB := hide (HIB.out.below hb)
    clear hb
    have hnn : ¬ n ≤ 0 := by omega
    have x0 := (Blk.cell K_x.out 0).trans (rfl : _ = some (Value.slice (some ⟨b, off, none⟩) L.length c))
    have x1 := (Blk.cell K_x.out 1).trans (rfl : _ = some (Value.bool c0))
    have u0 := (bcell HB.out _ _ (block_lt_of_cell HU0.out)).trans HU0.out
    have u1 := (bcell HB.out _ _ (block_lt_of_cell HU1.out)).trans HU1.out
    have v0 := (bcell HB.out _ _ (block_lt_of_cell HV0.out)).trans HV0.out
    have v1 := (bcell HB.out _ _ (block_lt_of_cell HV1.out)).trans HV1.out
    go_upto_region 13 with (fail)
    go_quiet (fail)
    clear u0 u1 v0 v1
    have hbd := below_drewN (Below.refl w11.heap.size w11) nq
    generalize w11.drewN nq = wdq at *
    clear x0 x1
    replace K_x := hide (Blk.below K_x.out hbd (Blk.lt K_x.out))
    replace K_a := hide (Blk.below K_a.out hbd (Blk.lt K_a.out))
    replace HB := hide (HB.out.trans (hbd.mono HB.out.size))
    replace HIA := hide (HIA.out.below hbd)
    replace HIB := hide (HIB.out.below hbd)
    clear hbd
    have HBL := HB
    have K_xL := K_x
    go_wp2_with fail
    go_loopg [163] P.length (fun q iv wr => ∃ j : Nat, iv = .int .i64 (j : Int) ∧ q + j = P.length ∧ Below wdq.heap.size wdq wr)
    case atStart => exact ⟨0, rfl, rfl, Below.refl _ _⟩
    case round =>
      obtain ⟨j, rfl, hq, hb⟩ := hrel
      have hj : j ≤ P.length := by omega
      have HQ := hide hq
      have HB2 := hide hb
      clear hq
      replace K_x := hide (Blk.below K_x.out hb (Blk.lt K_x.out))
      replace HB := hide (HB.out.trans (hb.mono HB.out.size))
      clear hb
      by_cases hlt : j < P.length
      · skip
        have hji : (j : Int) < (P.length : Int) := by omega
        have hj0 : (0 : Int) ≤ (j : Int) := by omega
        obtain ⟨b5, off5, hA, hpcell⟩ := HPC.out (by omega)
        subst hA
        obtain ⟨px, py, hxy⟩ : ∃ u v, gP P j = (u, v) := ⟨_, _, rfl⟩
        obtain ⟨a0, a1⟩ := hpcell j _ (gP_eq hlt)
        rw [hxy] at a0 a1
        have p0 := (bcell HB.out _ _ (block_lt_of_cell a0)).trans a0
        have p1 := (bcell HB.out _ _ (block_lt_of_cell a1)).trans a1
        have hco := HPR.out j
        rw [hxy] at hco
        obtain ⟨d0, d1, i0, i1, m, f0, f1, zd0, zd1, hcm, hm0⟩ := HNEAR.out px py hco
        have hm1 : ¬ 0 < m := by omega
        have HCM := hide (fun w (hS : Std w) => rcompare_any w ⟨(RT d1).toArray⟩ ⟨(RT d0).toArray⟩ d1 d0 rfl rfl (zd1.fit (by decide) (by decide)) (zd0.fit (by decide) (by decide)) hS)
        rw [hcm] at HCM
        have F0 := hide f0
        have F1 := hide f1
        obtain ⟨t0, ht0⟩ : ∃ s : ByteArray, (⟨(RT d0).toArray⟩ : ByteArray) = s := ⟨_, rfl⟩
        obtain ⟨t1, ht1⟩ : ∃ s : ByteArray, (⟨(RT d1).toArray⟩ : ByteArray) = s := ⟨_, rfl⟩
        rw [ht0] at F0 HCM
        rw [ht1] at F1 HCM
        clear a0 a1 hpcell hxy hco f0 f1 zd0 zd1 hcm hm0 ht0 ht1 HNEAR
        have x0 := (Blk.cell K_x.out 0).trans (rfl : _ = some (Value.slice (some ⟨b, off, none⟩) L.length c))
        have x1 := (Blk.cell K_x.out 1).trans (rfl : _ = some (Value.bool c0))
        go_upto_region 18 with (fail)
        clear x0 x1
        have lt_q_x : w.heap.size < wr.heap.size := Blk.lt K_x.out
        replace K_x := K_x.out.alloc (.cells #[.int .i64 px, .int .i64 py] 24)
        replace HB := HB.out.alloc HB.out.size (.cells #[.int .i64 px, .int .i64 py] 24)
        have K_q := Blk.new wr 24 #[.int .i64 px, .int .i64 py]
        replace HB2 := HB2.out.alloc HB2.out.size (.cells #[.int .i64 px, .int .i64 py] 24)
        generalize wr.alloc (.cells #[.int .i64 px, .int .i64 py] 24) = wq at *
        replace K_x := hide K_x
        replace K_q := hide K_q
        replace HB := hide HB
        replace HB2 := hide HB2
        clear p0 p1
        have x0 := (Blk.cell K_x.out 0).trans (rfl : _ = some (Value.slice (some ⟨b, off, none⟩) L.length c))
        have x1 := (Blk.cell K_x.out 1).trans (rfl : _ = some (Value.bool c0))
        have q0 := (Blk.cell K_q.out 0).trans (rfl : _ = some (Value.int .i64 px))
        have q1 := (Blk.cell K_q.out 1).trans (rfl : _ = some (Value.int .i64 py))
        go_wp2_with fail
        refine (pne_any _ _ L false px py (HV.out.below HB.out) hL (HS.out.below HB.out (Nat.le_refl _))).mono ?_
        rw [F0.out]
        rintro e v1 ⟨rfl, hb1⟩
        clear x0 x1 q0 q1
        replace K_x := hide (Blk.below K_x.out hb1 (Blk.lt K_x.out))
        replace K_q := hide (Blk.below K_q.out hb1 (Blk.lt K_q.out))
        replace HB := hide (HB.out.trans (hb1.mono HB.out.size))
        replace HB2 := hide (HB2.out.trans (hb1.mono HB2.out.size))
        clear hb1
        have x0 := (Blk.cell K_x.out 0).trans (rfl : _ = some (Value.slice (some ⟨b, off, none⟩) L.length c))
        have x1 := (Blk.cell K_x.out 1).trans (rfl : _ = some (Value.bool c0))
        have q0 := (Blk.cell K_q.out 0).trans (rfl : _ = some (Value.int .i64 px))
        have q1 := (Blk.cell K_q.out 1).trans (rfl : _ = some (Value.int .i64 py))
        go_wp2_with fail
        refine (pne_any _ _ L true px py (HV.out.below HB.out) hL (HS.out.below HB.out (Nat.le_refl _))).mono ?_
        rw [F1.out]
        rintro e v2 ⟨rfl, hb2⟩
        clear x0 x1 q0 q1
        replace K_x := hide (Blk.below K_x.out hb2 (Blk.lt K_x.out))
        replace K_q := hide (Blk.below K_q.out hb2 (Blk.lt K_q.out))
        replace HB := hide (HB.out.trans (hb2.mono HB.out.size))
        replace HB2 := hide (HB2.out.trans (hb2.mono HB2.out.size))
        clear hb2
        go_wp2_with fail
        refine (HCM.out _ (HS.out.below HB.out (Nat.le_refl _))).mono ?_
        rintro e v3 ⟨rfl, hb3⟩
        replace K_x := hide (Blk.below K_x.out hb3 (Blk.lt K_x.out))
        replace K_q := hide (Blk.below K_q.out hb3 (Blk.lt K_q.out))
        replace HB := hide (HB.out.trans (hb3.mono HB.out.size))
        replace HB2 := hide (HB2.out.trans (hb3.mono HB2.out.size))
        clear hb3
        go_wp2_with fail
        go_roundg (gk - 1)
        case measure => have := HQ.out; omega
        case rel => exact ⟨j + 1, by go_num, by have := HQ.out; omega, HB2.out⟩
      · skip
        have hji : ¬ (j : Int) < (P.length : Int) := by omega
        go_wp2_with fail
        refine (awake_any _ (HS.out.below HB.out (Nat.le_refl _))).mono ?_
        rintro e v4 ⟨rfl, hb4⟩
        have HE := hide (HB.out.trans (hb4.mono HB.out.size))
        go_wp2_with fail
        go_ret
        exact ⟨rfl, HE.out⟩
  · skip
    have hnp : ¬ 0 < n := by omega
    have HD := hide (decide_eq_false hin)
    clear hin
    have a0 := (Blk.cell K_a.out 0).trans (rfl : _ = some (Value.slice A_IA 0 c_IA))
    go_wp2_with fail
    refine (contains37_any _ _ [] i z1' HIA.out).mono ?_
    rw [HD.out]
    rintro e w11 ⟨rfl, hb⟩
    clear a0
    replace K_x := hide (Blk.below K_x.out hb (Blk.lt K_x.out))
    replace K_a := hide (Blk.below K_a.out hb (Blk.lt K_a.out))
    replace HB := hide (HB.out.trans (hb.mono HB.out.size))
    replace HIA := hide (HIA.out.below hb)
    replace HIB := hide (HIB.out.below hb)
    clear hb
    have a0 := (Blk.cell K_a.out 0).trans (rfl : _ = some (Value.slice A_IA 0 c_IA))
    have x0 := (Blk.cell K_x.out 0).trans (rfl : _ = some (Value.slice (some ⟨b, off, none⟩) L.length c))
    have x1 := (Blk.cell K_x.out 1).trans (rfl : _ = some (Value.bool c0))
    have u0 := (bcell HB.out _ _ (block_lt_of_cell HU0.out)).trans HU0.out
    have u1 := (bcell HB.out _ _ (block_lt_of_cell HU1.out)).trans HU1.out
    have v0 := (bcell HB.out _ _ (block_lt_of_cell HV0.out)).trans HV0.out
    have v1 := (bcell HB.out _ _ (block_lt_of_cell HV1.out)).trans HV1.out
    go_upto_region 13 with (fail)
    go_quiet (fail)
    clear u0 u1 v0 v1
    have hbd := below_drewN (Below.refl w11.heap.size w11) nq
    generalize w11.drewN nq = wdq at *
    clear a0 x0 x1
    replace K_x := hide (Blk.below K_x.out hbd (Blk.lt K_x.out))
    replace K_a := hide (Blk.below K_a.out hbd (Blk.lt K_a.out))
    replace HB := hide (HB.out.trans (hbd.mono HB.out.size))
    replace HIA := hide (HIA.out.below hbd)
    replace HIB := hide (HIB.out.below hbd)
    clear hbd
    have HBL := HB
    have K_xL := K_x
    go_wp2_with fail
    go_loopg [163] P.length (fun q iv wr => ∃ j : Nat, iv = .int .i64 (j : Int) ∧ q + j = P.length ∧ Below wdq.heap.size wdq wr)
    case atStart => exact ⟨0, rfl, rfl, Below.refl _ _⟩
    case round =>
      obtain ⟨j, rfl, hq, hb⟩ := hrel
      have hj : j ≤ P.length := by omega
      have HQ := hide hq
      have HB2 := hide hb
      clear hq
      replace K_x := hide (Blk.below K_x.out hb (Blk.lt K_x.out))
      replace HB := hide (HB.out.trans (hb.mono HB.out.size))
      clear hb
      by_cases hlt : j < P.length
      · skip
        have hji : (j : Int) < (P.length : Int) := by omega
        have hj0 : (0 : Int) ≤ (j : Int) := by omega
        obtain ⟨b5, off5, hA, hpcell⟩ := HPC.out (by omega)
        subst hA
        obtain ⟨px, py, hxy⟩ : ∃ u v, gP P j = (u, v) := ⟨_, _, rfl⟩
        obtain ⟨a0, a1⟩ := hpcell j _ (gP_eq hlt)
        rw [hxy] at a0 a1
        have p0 := (bcell HB.out _ _ (block_lt_of_cell a0)).trans a0
        have p1 := (bcell HB.out _ _ (block_lt_of_cell a1)).trans a1
        have hco := HPR.out j
        rw [hxy] at hco
        obtain ⟨d0, d1, i0, i1, m, f0, f1, zd0, zd1, hcm, hm0⟩ := HNEAR.out px py hco
        have hm1 : ¬ 0 < m := by omega
        have HCM := hide (fun w (hS : Std w) => rcompare_any w ⟨(RT d1).toArray⟩ ⟨(RT d0).toArray⟩ d1 d0 rfl rfl (zd1.fit (by decide) (by decide)) (zd0.fit (by decide) (by decide)) hS)
        rw [hcm] at HCM
        have F0 := hide f0
        have F1 := hide f1
        obtain ⟨t0, ht0⟩ : ∃ s : ByteArray, (⟨(RT d0).toArray⟩ : ByteArray) = s := ⟨_, rfl⟩
        obtain ⟨t1, ht1⟩ : ∃ s : ByteArray, (⟨(RT d1).toArray⟩ : ByteArray) = s := ⟨_, rfl⟩
        rw [ht0] at F0 HCM
        rw [ht1] at F1 HCM
        clear a0 a1 hpcell hxy hco f0 f1 zd0 zd1 hcm hm0 ht0 ht1 HNEAR
        have x0 := (Blk.cell K_x.out 0).trans (rfl : _ = some (Value.slice (some ⟨b, off, none⟩) L.length c))
        have x1 := (Blk.cell K_x.out 1).trans (rfl : _ = some (Value.bool c0))
        go_upto_region 18 with (fail)
        clear x0 x1
        have lt_q_x : w.heap.size < wr.heap.size := Blk.lt K_x.out
        replace K_x := K_x.out.alloc (.cells #[.int .i64 px, .int .i64 py] 24)
        replace HB := HB.out.alloc HB.out.size (.cells #[.int .i64 px, .int .i64 py] 24)
        have K_q := Blk.new wr 24 #[.int .i64 px, .int .i64 py]
        replace HB2 := HB2.out.alloc HB2.out.size (.cells #[.int .i64 px, .int .i64 py] 24)
        generalize wr.alloc (.cells #[.int .i64 px, .int .i64 py] 24) = wq at *
        replace K_x := hide K_x
        replace K_q := hide K_q
        replace HB := hide HB
        replace HB2 := hide HB2
        clear p0 p1
        have x0 := (Blk.cell K_x.out 0).trans (rfl : _ = some (Value.slice (some ⟨b, off, none⟩) L.length c))
        have x1 := (Blk.cell K_x.out 1).trans (rfl : _ = some (Value.bool c0))
        have q0 := (Blk.cell K_q.out 0).trans (rfl : _ = some (Value.int .i64 px))
        have q1 := (Blk.cell K_q.out 1).trans (rfl : _ = some (Value.int .i64 py))
        go_wp2_with fail
        refine (pne_any _ _ L false px py (HV.out.below HB.out) hL (HS.out.below HB.out (Nat.le_refl _))).mono ?_
        rw [F0.out]
        rintro e v1 ⟨rfl, hb1⟩
        clear x0 x1 q0 q1
        replace K_x := hide (Blk.below K_x.out hb1 (Blk.lt K_x.out))
        replace K_q := hide (Blk.below K_q.out hb1 (Blk.lt K_q.out))
        replace HB := hide (HB.out.trans (hb1.mono HB.out.size))
        replace HB2 := hide (HB2.out.trans (hb1.mono HB2.out.size))
        clear hb1
        have x0 := (Blk.cell K_x.out 0).trans (rfl : _ = some (Value.slice (some ⟨b, off, none⟩) L.length c))
        have x1 := (Blk.cell K_x.out 1).trans (rfl : _ = some (Value.bool c0))
        have q0 := (Blk.cell K_q.out 0).trans (rfl : _ = some (Value.int .i64 px))
        have q1 := (Blk.cell K_q.out 1).trans (rfl : _ = some (Value.int .i64 py))
        go_wp2_with fail
        refine (pne_any _ _ L true px py (HV.out.below HB.out) hL (HS.out.below HB.out (Nat.le_refl _))).mono ?_
        rw [F1.out]
        rintro e v2 ⟨rfl, hb2⟩
        clear x0 x1 q0 q1
        replace K_x := hide (Blk.below K_x.out hb2 (Blk.lt K_x.out))
        replace K_q := hide (Blk.below K_q.out hb2 (Blk.lt K_q.out))
        replace HB := hide (HB.out.trans (hb2.mono HB.out.size))
        replace HB2 := hide (HB2.out.trans (hb2.mono HB2.out.size))
        clear hb2
        go_wp2_with fail
        refine (HCM.out _ (HS.out.below HB.out (Nat.le_refl _))).mono ?_
        rintro e v3 ⟨rfl, hb3⟩
        replace K_x := hide (Blk.below K_x.out hb3 (Blk.lt K_x.out))
        replace K_q := hide (Blk.below K_q.out hb3 (Blk.lt K_q.out))
        replace HB := hide (HB.out.trans (hb3.mono HB.out.size))
        replace HB2 := hide (HB2.out.trans (hb3.mono HB2.out.size))
        clear hb3
        go_wp2_with fail
        go_roundg (gk - 1)
        case measure => have := HQ.out; omega
        case rel => exact ⟨j + 1, by go_num, by have := HQ.out; omega, HB2.out⟩
      · skip
        have hji : ¬ (j : Int) < (P.length : Int) := by omega
        go_wp2_with fail
        refine (awake_any _ (HS.out.below HB.out (Nat.le_refl _))).mono ?_
        rintro e v4 ⟨rfl, hb4⟩
        have HE := hide (HB.out.trans (hb4.mono HB.out.size))
        go_wp2_with fail
        go_ret
        exact ⟨rfl, HE.out⟩

set_option maxRecDepth 100000 in
set_option maxHeartbeats 8000000 in
theorem grows_ny (w : World) (v : Value) (L : List S2) (c0 : Bool) (hv : Pts w v L) (vp : Value) (P : List S2) (hvp : Pts w vp P) (t : Int) (ht : 0 ≤ t ∧ t < 256) (hs : Std w) (h8 : L.length ≤ 8) (hc : chkP L c0 = 0) (hP0 : 0 < P.length) (hP8 : P.length ≤ 8) (hk : chkPtsN P = 0) (h3 : 3 ≤ L.length) (HNE : gP L 0 ≠ gP L (L.length - 1)) (hxeq : (gP L 0).1 = (gP L (L.length - 1)).1) (hyne : (gP L 0).2 ≠ (gP L (L.length - 1)).2) :
    Calls Tryz.prog 9 #[.agg #[v, .bool c0], vp, .int .u8 t] w fun e w' => e = .returned (.bool true) ∧ Below w.heap.size w w' := by
  have HV := hide hv
  have HVP := hide hvp
  have HS := hide hs
  obtain ⟨A, c, rfl, _⟩ := id hv
  obtain ⟨A2, c2, rfl, hpc⟩ := id hvp
  have HPC := hide hpc
  clear hv hs hvp hpc
  have HB := allocs_below w [.cells #[.slice A L.length c, .bool c0] 34]
  have K_x : Blk (allocs w [.cells #[.slice A L.length c, .bool c0] 34]) (w.heap.size + 0) 34 #[.slice A L.length c, .bool c0] := allocs_at w [.cells #[.slice A L.length c, .bool c0] 34] 0 rfl
  unfold allocs at HB K_x
  simp only [List.foldl_cons, List.foldl_nil] at HB K_x
  rw [Nat.add_zero] at K_x
  obtain ⟨la, lb, W, i, n, e1, l1, e2, l2, q1, z1, z2, hwv, hiP, hsz, hcv, hor⟩ := grows_facts hc hk hP0 ht.1 ht.2
  have hL : L.length ≤ 1000000000000 := by omega
  have hPl : P.length ≤ 1000000000000 := by omega
  have hi : ¬ 8 < (L.length : Int) := by omega
  have hi2 : ¬ 8 < (P.length : Int) := by omega
  have hn0 : ((P.length : Int) == 0) = false := by rw [beq_eq_false_iff_ne]; omega
  have hi3 : ¬ (i : Int) < 0 := by omega
  have hi4 : ¬ (P.length : Int) ≤ (i : Int) := by omega
  have h64 : IntKind.i64.wrap t = t := IntWalk.i64_in _ (by omega)
  have h65 : IntKind.i64.wrap (t + 1) = t + 1 := IntWalk.i64_in _ (by omega)
  have htt0 : 0 ≤ t * t := Int.mul_nonneg ht.1 ht.1
  have htt1 : t * t ≤ 256 * 256 := Int.mul_le_mul (by omega) (by omega) ht.1 (by omega)
  have h66 : IntKind.i64.wrap (t * t) = t * t := IntWalk.i64_in _ (by omega)
  have HCK := hide (fun w => rrcheck_any w ⟨(RT W).toArray⟩ (RT W) rfl (by
    rw [Lib.size_eq]; exact Nat.le_trans (RT_len (hsz.fit (by decide) (by decide))) (by decide)))
  rw [chkR_RT (hsz.fit (by decide) (by decide))] at HCK
  have HX4 := hide (fun w => rqtimes_any w ⟨#[52]⟩ ⟨(RT W).toArray⟩ 4 W (by rw [rt4]) rfl (m := 30) (by omega) (Sz.mono (show Sz 1 0 (4 : Rat) from (Sz.int (a := 1) (n := 4) (by decide))) (by omega) (by omega)) hsz)
  have HX5 := hide (fun w => r2whole_any (t * t) (by omega) (by omega) w)
  have z4 : Sz 32 31 (4 * W) := (Sz.mul ((Sz.int (a := 1) (n := 4) (by decide)) : Sz 1 0 ((4 : Int) : Rat)) hsz).mono (by omega) (by omega)
  have z5 : Sz 32 31 ((t * t : Int) : Rat) := (Sz.int (a := 10) (by have : (10 : Nat) ^ 10 = 10000000000 := by decide
                                                                    omega)).mono (by omega) (by omega)
  have HX6 := hide (fun w (hS : Std w) => rcompare_any w ⟨(RT (4 * W)).toArray⟩ ⟨(RT ((t * t : Int) : Rat)).toArray⟩ (4 * W) ((t * t : Int) : Rat) rfl rfl (z4.fit (by decide) (by decide)) (z5.fit (by decide) (by decide)) hS)
  rw [hcv] at HX6
  have HK := hide hc
  have HK2 := hide hk
  have E1 := hide e1
  have E2 := hide e2
  have L1 := hide l1
  have L2 := hide l2
  have Q1 := hide q1
  have HWV := hide hwv
  obtain ⟨sW, hsW⟩ : ∃ s : ByteArray, (⟨(RT W).toArray⟩ : ByteArray) = s := ⟨_, rfl⟩
  obtain ⟨s4, hs4⟩ : ∃ s : ByteArray, (⟨(RT (4 * W)).toArray⟩ : ByteArray) = s := ⟨_, rfl⟩
  obtain ⟨s5, hs5⟩ : ∃ s : ByteArray, (⟨(RT ((t * t : Int) : Rat)).toArray⟩ : ByteArray) = s := ⟨_, rfl⟩
  rw [hsW] at HWV HCK HX4
  rw [hs4] at HX4 HX6
  rw [hs5] at HX5 HX6
  have z1' : la.length ≤ 1000000000000 := by omega
  have z2' : lb.length ≤ 1000000000000 := by omega
  have hl3 : ¬ (L.length : Int) < 3 := by omega
  have hl0 : (0 : Int) < (L.length : Int) := by omega
  have hl0n : 0 < L.length := by omega
  have hln1 : ((L.length - 1 : Nat) : Int) < (L.length : Int) := by omega
  have hln0 : (0 : Int) ≤ ((L.length - 1 : Nat) : Int) := by omega
  have hln2 : L.length - 1 < L.length := by omega
  have hw1 : IntKind.i64.wrap ((L.length : Int) - 1) = ((L.length - 1 : Nat) : Int) := (IntWalk.i64_in _ (by omega)).trans (by omega)
  obtain ⟨b, off, rfl, hlc⟩ : ∃ b off, A = some ⟨b, off, none⟩ ∧ ∀ i p, L[i]? = some p → w.cell? ⟨b, off + i * 2, none⟩ = some (.int .i64 p.1) ∧ w.cell? ⟨b, off + i * 2 + 1, none⟩ = some (.int .i64 p.2) := by
    obtain ⟨A', c', hv', hh⟩ := HV.out
    cases hv'
    exact hh hl0n
  obtain ⟨x1, x2, hx⟩ : ∃ u v, gP L 0 = (u, v) := ⟨_, _, rfl⟩
  obtain ⟨y1, y2, hy⟩ : ∃ u v, gP L (L.length - 1) = (u, v) := ⟨_, _, rfl⟩
  have hne : gP L 0 ≠ gP L (L.length - 1) := HNE
  have HNEAR := hide (fun (x y : Int) (hp : Co x ∧ Co y) => grows_near hc h3 hne hp)
  obtain ⟨u0, u1⟩ := hlc 0 _ (gP_eq hl0n)
  obtain ⟨v0, v1⟩ := hlc (L.length - 1) _ (gP_eq hln2)
  rw [hx, Nat.zero_mul, Nat.add_zero] at u0 u1
  rw [hy] at v0 v1
  rw [hx, hy] at hxeq hyne
  obtain rfl : x1 = y1 := hxeq
  have hEY : (x2 = y2) = False := by simpa using hyne
  have HU0 := hide u0
  have HU1 := hide u1
  have HV0 := hide v0
  have HV1 := hide v1
  clear u0 u1 v0 v1 hx hy hlc
  have HPR : Hid (RightS P) := hide (by
    rcases chkPtsN_cases P with h | h | ⟨_, h2, h3⟩
    · rw [h] at hk; exact absurd hk (by decide)
    · rw [h] at hk; exact absurd hk (by decide)
    · exact rightS_of_all h3)
  clear hc hk e1 e2 l1 l2 q1 hwv hcv hsW hs4 hs5 z4 z5 hsz htt0 htt1
  clear h3 hne HNE hyne
  go_enter Tryz.func9, Tryz.ntmps9
  go_upto_region 1 with (fail)
  generalize (w.alloc (.cells #[.slice (some ⟨b, off, none⟩) L.length c, .bool c0] 34)) = w0 at *
  replace K_x := hide K_x
  replace HB := hide HB
  have x0 := (Blk.cell K_x.out 0).trans (rfl : _ = some (Value.slice (some ⟨b, off, none⟩) L.length c))
  have x1 := (Blk.cell K_x.out 1).trans (rfl : _ = some (Value.bool c0))
  go_wp2_with fail
  refine (rpcheck_any _ _ L c0 (HV.out.below HB.out) (by omega)).mono ?_
  rw [HK.out]
  rintro e w1 ⟨rfl, hb⟩
  clear x0 x1
  replace K_x := hide (Blk.below K_x.out hb (Blk.lt K_x.out))
  replace HB := hide (HB.out.trans (hb.mono HB.out.size))
  clear hb
  have x0 := (Blk.cell K_x.out 0).trans (rfl : _ = some (Value.slice (some ⟨b, off, none⟩) L.length c))
  have x1 := (Blk.cell K_x.out 1).trans (rfl : _ = some (Value.bool c0))
  go_wp2_with fail
  refine (rCheck_any _ _ P (HVP.out.below HB.out) (by omega)).mono ?_
  rw [HK2.out]
  rintro e w2 ⟨rfl, hb⟩
  clear x0 x1
  replace K_x := hide (Blk.below K_x.out hb (Blk.lt K_x.out))
  replace HB := hide (HB.out.trans (hb.mono HB.out.size))
  clear hb
  have x0 := (Blk.cell K_x.out 0).trans (rfl : _ = some (Value.slice (some ⟨b, off, none⟩) L.length c))
  have x1 := (Blk.cell K_x.out 1).trans (rfl : _ = some (Value.bool c0))
  go_wp2_with fail
  refine (pout_any _ _ L c0 _ P t (HV.out.below HB.out) (HVP.out.below HB.out) hL hPl (HS.out.below HB.out (Nat.le_refl _))).mono ?_
  rw [E1.out, L1.out]
  rintro e w3 ⟨⟨u_IA, rfl, hin_IA⟩, hb⟩
  obtain ⟨A_IA, c_IA, rfl⟩ := hin_IA.shape
  have HIA := hide hin_IA
  clear hin_IA
  clear x0 x1
  replace K_x := hide (Blk.below K_x.out hb (Blk.lt K_x.out))
  replace HB := hide (HB.out.trans (hb.mono HB.out.size))
  clear hb
  have x0 := (Blk.cell K_x.out 0).trans (rfl : _ = some (Value.slice (some ⟨b, off, none⟩) L.length c))
  have x1 := (Blk.cell K_x.out 1).trans (rfl : _ = some (Value.bool c0))
  go_upto_region 4 with (fail)
  clear x0 x1
  have lt_a_x : w.heap.size < w3.heap.size := Blk.lt K_x.out
  replace K_x := K_x.out.alloc (.cells #[.slice A_IA la.length c_IA] 48)
  replace HB := HB.out.alloc HB.out.size (.cells #[.slice A_IA la.length c_IA] 48)
  have K_a := Blk.new w3 48 #[.slice A_IA la.length c_IA]
  replace HIA := HIA.out.below ((Below.refl w3.heap.size w3).alloc (Nat.le_refl _) (.cells #[.slice A_IA la.length c_IA] 48))
  generalize w3.alloc (.cells #[.slice A_IA la.length c_IA] 48) = wa at *
  replace K_x := hide K_x
  replace K_a := hide K_a
  replace HB := hide HB
  replace HIA := hide HIA
  have x0 := (Blk.cell K_x.out 0).trans (rfl : _ = some (Value.slice (some ⟨b, off, none⟩) L.length c))
  have x1 := (Blk.cell K_x.out 1).trans (rfl : _ = some (Value.bool c0))
  go_wp2_with fail
  refine (pout_any _ _ L c0 _ P (t + 1) (HV.out.below HB.out) (HVP.out.below HB.out) hL hPl (HS.out.below HB.out (Nat.le_refl _))).mono ?_
  rw [E2.out, L2.out]
  rintro e w4 ⟨⟨u_IB, rfl, hin_IB⟩, hb⟩
  obtain ⟨A_IB, c_IB, rfl⟩ := hin_IB.shape
  have HIB := hide hin_IB
  clear hin_IB
  clear x0 x1
  replace K_x := hide (Blk.below K_x.out hb (Blk.lt K_x.out))
  replace K_a := hide (Blk.below K_a.out hb (Blk.lt K_a.out))
  replace HB := hide (HB.out.trans (hb.mono HB.out.size))
  replace HIA := hide (HIA.out.below hb)
  clear hb
  have x0 := (Blk.cell K_x.out 0).trans (rfl : _ = some (Value.slice (some ⟨b, off, none⟩) L.length c))
  have x1 := (Blk.cell K_x.out 1).trans (rfl : _ = some (Value.bool c0))
  go_wp2_with fail
  refine (pwor_any _ _ L c0 _ P (HV.out.below HB.out) (HVP.out.below HB.out) hL hPl (HS.out.below HB.out (Nat.le_refl _))).mono ?_
  rw [HWV.out]
  rintro e w5 ⟨rfl, hb⟩
  clear x0 x1
  replace K_x := hide (Blk.below K_x.out hb (Blk.lt K_x.out))
  replace K_a := hide (Blk.below K_a.out hb (Blk.lt K_a.out))
  replace HB := hide (HB.out.trans (hb.mono HB.out.size))
  replace HIA := hide (HIA.out.below hb)
  replace HIB := hide (HIB.out.below hb)
  clear hb
  go_wp2_with fail
  refine (HCK.out _).mono ?_
  rintro e w6 ⟨rfl, hb⟩
  replace K_x := hide (Blk.below K_x.out hb (Blk.lt K_x.out))
  replace K_a := hide (Blk.below K_a.out hb (Blk.lt K_a.out))
  replace HB := hide (HB.out.trans (hb.mono HB.out.size))
  replace HIA := hide (HIA.out.below hb)
  replace HIB := hide (HIB.out.below hb)
  clear hb
  have HCF := hide (containsf_none w6 _ lb 39 #[.pointer (some ⟨w3.heap.size, 0, none⟩)] (enters_of Tryz.func39 (by kernel_rfl) rfl) z2' HIB.out (fun k hk W' hb => growsf_any W' _ _ _ la k z1' (Blk.below K_a.out hb (Blk.lt K_a.out)) (HIA.out.below hb) (Q1.out k hk)))
  go_wp2_with fail
  refine (HCF.out).mono ?_
  rintro e w7 ⟨rfl, hb⟩
  replace K_x := hide (Blk.below K_x.out hb (Blk.lt K_x.out))
  replace K_a := hide (Blk.below K_a.out hb (Blk.lt K_a.out))
  replace HB := hide (HB.out.trans (hb.mono HB.out.size))
  replace HIA := hide (HIA.out.below hb)
  replace HIB := hide (HIB.out.below hb)
  clear hb
  clear HCF
  go_wp2_with fail
  refine (HX4.out _).mono ?_
  rintro e w8 ⟨rfl, hb⟩
  replace K_x := hide (Blk.below K_x.out hb (Blk.lt K_x.out))
  replace K_a := hide (Blk.below K_a.out hb (Blk.lt K_a.out))
  replace HB := hide (HB.out.trans (hb.mono HB.out.size))
  replace HIA := hide (HIA.out.below hb)
  replace HIB := hide (HIB.out.below hb)
  clear hb
  go_wp2_with fail
  refine (HX5.out _).mono ?_
  rintro e w9 ⟨rfl, hb⟩
  replace K_x := hide (Blk.below K_x.out hb (Blk.lt K_x.out))
  replace K_a := hide (Blk.below K_a.out hb (Blk.lt K_a.out))
  replace HB := hide (HB.out.trans (hb.mono HB.out.size))
  replace HIA := hide (HIA.out.below hb)
  replace HIB := hide (HIB.out.below hb)
  clear hb
  go_wp2_with fail
  refine (HX6.out _ (HS.out.below HB.out (Nat.le_refl _))).mono ?_
  rintro e w10 ⟨rfl, hb⟩
  replace K_x := hide (Blk.below K_x.out hb (Blk.lt K_x.out))
  replace K_a := hide (Blk.below K_a.out hb (Blk.lt K_a.out))
  replace HB := hide (HB.out.trans (hb.mono HB.out.size))
  replace HIA := hide (HIA.out.below hb)
  replace HIB := hide (HIB.out.below hb)
  clear hb
  rcases hor with ⟨hpos, hin⟩ | ⟨hneg, hin, rfl⟩
  · skip
    have hnp : 0 < n := hpos
    have HD := hide (decide_eq_true hin)
    clear hpos hin
    have a0 := (Blk.cell K_a.out 0).trans (rfl : _ = some (Value.slice A_IA la.length c_IA))
    go_wp2_with fail
    refine (contains37_any _ _ la i z1' HIA.out).mono ?_
    rw [HD.out]
    rintro e w11 ⟨rfl, hb⟩
    clear a0
    replace K_x := hide (Blk.below K_x.out hb (Blk.lt K_x.out))
    replace K_a := hide (Blk.below K_a.out hb (Blk.lt K_a.out))
    replace HB := hide (HB.out.trans (hb.mono HB.out.size))
    replace HIA := hide (HIA.out.below hb)
    replace HIB := hide (HIB.out.below hb)
    clear hb
    have hnn : ¬ n ≤ 0 := by omega
    have x0 := (Blk.cell K_x.out 0).trans (rfl : _ = some (Value.slice (some ⟨b, off, none⟩) L.length c))
    have x1 := (Blk.cell K_x.out 1).trans (rfl : _ = some (Value.bool c0))
    have u0 := (bcell HB.out _ _ (block_lt_of_cell HU0.out)).trans HU0.out
    have u1 := (bcell HB.out _ _ (block_lt_of_cell HU1.out)).trans HU1.out
    have v0 := (bcell HB.out _ _ (block_lt_of_cell HV0.out)).trans HV0.out
    have v1 := (bcell HB.out _ _ (block_lt_of_cell HV1.out)).trans HV1.out
    go_upto_region 13 with (fail)
    go_quiet (fail)
    clear u0 u1 v0 v1
    have hbd := below_drewN (Below.refl w11.heap.size w11) nq
    generalize w11.drewN nq = wdq at *
    clear x0 x1
    replace K_x := hide (Blk.below K_x.out hbd (Blk.lt K_x.out))
    replace K_a := hide (Blk.below K_a.out hbd (Blk.lt K_a.out))
    replace HB := hide (HB.out.trans (hbd.mono HB.out.size))
    replace HIA := hide (HIA.out.below hbd)
    replace HIB := hide (HIB.out.below hbd)
    clear hbd
    have HBL := HB
    have K_xL := K_x
    go_wp2_with fail
    go_loopg [163] P.length (fun q iv wr => ∃ j : Nat, iv = .int .i64 (j : Int) ∧ q + j = P.length ∧ Below wdq.heap.size wdq wr)
    case atStart => exact ⟨0, rfl, rfl, Below.refl _ _⟩
    case round =>
      obtain ⟨j, rfl, hq, hb⟩ := hrel
      have hj : j ≤ P.length := by omega
      have HQ := hide hq
      have HB2 := hide hb
      clear hq
      replace K_x := hide (Blk.below K_x.out hb (Blk.lt K_x.out))
      replace HB := hide (HB.out.trans (hb.mono HB.out.size))
      clear hb
      by_cases hlt : j < P.length
      · skip
        have hji : (j : Int) < (P.length : Int) := by omega
        have hj0 : (0 : Int) ≤ (j : Int) := by omega
        obtain ⟨b5, off5, hA, hpcell⟩ := HPC.out (by omega)
        subst hA
        obtain ⟨px, py, hxy⟩ : ∃ u v, gP P j = (u, v) := ⟨_, _, rfl⟩
        obtain ⟨a0, a1⟩ := hpcell j _ (gP_eq hlt)
        rw [hxy] at a0 a1
        have p0 := (bcell HB.out _ _ (block_lt_of_cell a0)).trans a0
        have p1 := (bcell HB.out _ _ (block_lt_of_cell a1)).trans a1
        have hco := HPR.out j
        rw [hxy] at hco
        obtain ⟨d0, d1, i0, i1, m, f0, f1, zd0, zd1, hcm, hm0⟩ := HNEAR.out px py hco
        have hm1 : ¬ 0 < m := by omega
        have HCM := hide (fun w (hS : Std w) => rcompare_any w ⟨(RT d1).toArray⟩ ⟨(RT d0).toArray⟩ d1 d0 rfl rfl (zd1.fit (by decide) (by decide)) (zd0.fit (by decide) (by decide)) hS)
        rw [hcm] at HCM
        have F0 := hide f0
        have F1 := hide f1
        obtain ⟨t0, ht0⟩ : ∃ s : ByteArray, (⟨(RT d0).toArray⟩ : ByteArray) = s := ⟨_, rfl⟩
        obtain ⟨t1, ht1⟩ : ∃ s : ByteArray, (⟨(RT d1).toArray⟩ : ByteArray) = s := ⟨_, rfl⟩
        rw [ht0] at F0 HCM
        rw [ht1] at F1 HCM
        clear a0 a1 hpcell hxy hco f0 f1 zd0 zd1 hcm hm0 ht0 ht1 HNEAR
        have x0 := (Blk.cell K_x.out 0).trans (rfl : _ = some (Value.slice (some ⟨b, off, none⟩) L.length c))
        have x1 := (Blk.cell K_x.out 1).trans (rfl : _ = some (Value.bool c0))
        go_upto_region 18 with (fail)
        clear x0 x1
        have lt_q_x : w.heap.size < wr.heap.size := Blk.lt K_x.out
        replace K_x := K_x.out.alloc (.cells #[.int .i64 px, .int .i64 py] 24)
        replace HB := HB.out.alloc HB.out.size (.cells #[.int .i64 px, .int .i64 py] 24)
        have K_q := Blk.new wr 24 #[.int .i64 px, .int .i64 py]
        replace HB2 := HB2.out.alloc HB2.out.size (.cells #[.int .i64 px, .int .i64 py] 24)
        generalize wr.alloc (.cells #[.int .i64 px, .int .i64 py] 24) = wq at *
        replace K_x := hide K_x
        replace K_q := hide K_q
        replace HB := hide HB
        replace HB2 := hide HB2
        clear p0 p1
        have x0 := (Blk.cell K_x.out 0).trans (rfl : _ = some (Value.slice (some ⟨b, off, none⟩) L.length c))
        have x1 := (Blk.cell K_x.out 1).trans (rfl : _ = some (Value.bool c0))
        have q0 := (Blk.cell K_q.out 0).trans (rfl : _ = some (Value.int .i64 px))
        have q1 := (Blk.cell K_q.out 1).trans (rfl : _ = some (Value.int .i64 py))
        go_wp2_with fail
        refine (pne_any _ _ L false px py (HV.out.below HB.out) hL (HS.out.below HB.out (Nat.le_refl _))).mono ?_
        rw [F0.out]
        rintro e v1 ⟨rfl, hb1⟩
        clear x0 x1 q0 q1
        replace K_x := hide (Blk.below K_x.out hb1 (Blk.lt K_x.out))
        replace K_q := hide (Blk.below K_q.out hb1 (Blk.lt K_q.out))
        replace HB := hide (HB.out.trans (hb1.mono HB.out.size))
        replace HB2 := hide (HB2.out.trans (hb1.mono HB2.out.size))
        clear hb1
        have x0 := (Blk.cell K_x.out 0).trans (rfl : _ = some (Value.slice (some ⟨b, off, none⟩) L.length c))
        have x1 := (Blk.cell K_x.out 1).trans (rfl : _ = some (Value.bool c0))
        have q0 := (Blk.cell K_q.out 0).trans (rfl : _ = some (Value.int .i64 px))
        have q1 := (Blk.cell K_q.out 1).trans (rfl : _ = some (Value.int .i64 py))
        go_wp2_with fail
        refine (pne_any _ _ L true px py (HV.out.below HB.out) hL (HS.out.below HB.out (Nat.le_refl _))).mono ?_
        rw [F1.out]
        rintro e v2 ⟨rfl, hb2⟩
        clear x0 x1 q0 q1
        replace K_x := hide (Blk.below K_x.out hb2 (Blk.lt K_x.out))
        replace K_q := hide (Blk.below K_q.out hb2 (Blk.lt K_q.out))
        replace HB := hide (HB.out.trans (hb2.mono HB.out.size))
        replace HB2 := hide (HB2.out.trans (hb2.mono HB2.out.size))
        clear hb2
        go_wp2_with fail
        refine (HCM.out _ (HS.out.below HB.out (Nat.le_refl _))).mono ?_
        rintro e v3 ⟨rfl, hb3⟩
        replace K_x := hide (Blk.below K_x.out hb3 (Blk.lt K_x.out))
        replace K_q := hide (Blk.below K_q.out hb3 (Blk.lt K_q.out))
        replace HB := hide (HB.out.trans (hb3.mono HB.out.size))
        replace HB2 := hide (HB2.out.trans (hb3.mono HB2.out.size))
        clear hb3
        go_wp2_with fail
        go_roundg (gk - 1)
        case measure => have := HQ.out; omega
        case rel => exact ⟨j + 1, by go_num, by have := HQ.out; omega, HB2.out⟩
      · skip
        have hji : ¬ (j : Int) < (P.length : Int) := by omega
        go_wp2_with fail
        refine (awake_any _ (HS.out.below HB.out (Nat.le_refl _))).mono ?_
        rintro e v4 ⟨rfl, hb4⟩
        have HE := hide (HB.out.trans (hb4.mono HB.out.size))
        go_wp2_with fail
        go_ret
        exact ⟨rfl, HE.out⟩
  · skip
    have hnp : ¬ 0 < n := by omega
    have HD := hide (decide_eq_false hin)
    clear hin
    have a0 := (Blk.cell K_a.out 0).trans (rfl : _ = some (Value.slice A_IA 0 c_IA))
    go_wp2_with fail
    refine (contains37_any _ _ [] i z1' HIA.out).mono ?_
    rw [HD.out]
    rintro e w11 ⟨rfl, hb⟩
    clear a0
    replace K_x := hide (Blk.below K_x.out hb (Blk.lt K_x.out))
    replace K_a := hide (Blk.below K_a.out hb (Blk.lt K_a.out))
    replace HB := hide (HB.out.trans (hb.mono HB.out.size))
    replace HIA := hide (HIA.out.below hb)
    replace HIB := hide (HIB.out.below hb)
    clear hb
    have a0 := (Blk.cell K_a.out 0).trans (rfl : _ = some (Value.slice A_IA 0 c_IA))
    have x0 := (Blk.cell K_x.out 0).trans (rfl : _ = some (Value.slice (some ⟨b, off, none⟩) L.length c))
    have x1 := (Blk.cell K_x.out 1).trans (rfl : _ = some (Value.bool c0))
    have u0 := (bcell HB.out _ _ (block_lt_of_cell HU0.out)).trans HU0.out
    have u1 := (bcell HB.out _ _ (block_lt_of_cell HU1.out)).trans HU1.out
    have v0 := (bcell HB.out _ _ (block_lt_of_cell HV0.out)).trans HV0.out
    have v1 := (bcell HB.out _ _ (block_lt_of_cell HV1.out)).trans HV1.out
    go_upto_region 13 with (fail)
    go_quiet (fail)
    clear u0 u1 v0 v1
    have hbd := below_drewN (Below.refl w11.heap.size w11) nq
    generalize w11.drewN nq = wdq at *
    clear a0 x0 x1
    replace K_x := hide (Blk.below K_x.out hbd (Blk.lt K_x.out))
    replace K_a := hide (Blk.below K_a.out hbd (Blk.lt K_a.out))
    replace HB := hide (HB.out.trans (hbd.mono HB.out.size))
    replace HIA := hide (HIA.out.below hbd)
    replace HIB := hide (HIB.out.below hbd)
    clear hbd
    have HBL := HB
    have K_xL := K_x
    go_wp2_with fail
    go_loopg [163] P.length (fun q iv wr => ∃ j : Nat, iv = .int .i64 (j : Int) ∧ q + j = P.length ∧ Below wdq.heap.size wdq wr)
    case atStart => exact ⟨0, rfl, rfl, Below.refl _ _⟩
    case round =>
      obtain ⟨j, rfl, hq, hb⟩ := hrel
      have hj : j ≤ P.length := by omega
      have HQ := hide hq
      have HB2 := hide hb
      clear hq
      replace K_x := hide (Blk.below K_x.out hb (Blk.lt K_x.out))
      replace HB := hide (HB.out.trans (hb.mono HB.out.size))
      clear hb
      by_cases hlt : j < P.length
      · skip
        have hji : (j : Int) < (P.length : Int) := by omega
        have hj0 : (0 : Int) ≤ (j : Int) := by omega
        obtain ⟨b5, off5, hA, hpcell⟩ := HPC.out (by omega)
        subst hA
        obtain ⟨px, py, hxy⟩ : ∃ u v, gP P j = (u, v) := ⟨_, _, rfl⟩
        obtain ⟨a0, a1⟩ := hpcell j _ (gP_eq hlt)
        rw [hxy] at a0 a1
        have p0 := (bcell HB.out _ _ (block_lt_of_cell a0)).trans a0
        have p1 := (bcell HB.out _ _ (block_lt_of_cell a1)).trans a1
        have hco := HPR.out j
        rw [hxy] at hco
        obtain ⟨d0, d1, i0, i1, m, f0, f1, zd0, zd1, hcm, hm0⟩ := HNEAR.out px py hco
        have hm1 : ¬ 0 < m := by omega
        have HCM := hide (fun w (hS : Std w) => rcompare_any w ⟨(RT d1).toArray⟩ ⟨(RT d0).toArray⟩ d1 d0 rfl rfl (zd1.fit (by decide) (by decide)) (zd0.fit (by decide) (by decide)) hS)
        rw [hcm] at HCM
        have F0 := hide f0
        have F1 := hide f1
        obtain ⟨t0, ht0⟩ : ∃ s : ByteArray, (⟨(RT d0).toArray⟩ : ByteArray) = s := ⟨_, rfl⟩
        obtain ⟨t1, ht1⟩ : ∃ s : ByteArray, (⟨(RT d1).toArray⟩ : ByteArray) = s := ⟨_, rfl⟩
        rw [ht0] at F0 HCM
        rw [ht1] at F1 HCM
        clear a0 a1 hpcell hxy hco f0 f1 zd0 zd1 hcm hm0 ht0 ht1 HNEAR
        have x0 := (Blk.cell K_x.out 0).trans (rfl : _ = some (Value.slice (some ⟨b, off, none⟩) L.length c))
        have x1 := (Blk.cell K_x.out 1).trans (rfl : _ = some (Value.bool c0))
        go_upto_region 18 with (fail)
        clear x0 x1
        have lt_q_x : w.heap.size < wr.heap.size := Blk.lt K_x.out
        replace K_x := K_x.out.alloc (.cells #[.int .i64 px, .int .i64 py] 24)
        replace HB := HB.out.alloc HB.out.size (.cells #[.int .i64 px, .int .i64 py] 24)
        have K_q := Blk.new wr 24 #[.int .i64 px, .int .i64 py]
        replace HB2 := HB2.out.alloc HB2.out.size (.cells #[.int .i64 px, .int .i64 py] 24)
        generalize wr.alloc (.cells #[.int .i64 px, .int .i64 py] 24) = wq at *
        replace K_x := hide K_x
        replace K_q := hide K_q
        replace HB := hide HB
        replace HB2 := hide HB2
        clear p0 p1
        have x0 := (Blk.cell K_x.out 0).trans (rfl : _ = some (Value.slice (some ⟨b, off, none⟩) L.length c))
        have x1 := (Blk.cell K_x.out 1).trans (rfl : _ = some (Value.bool c0))
        have q0 := (Blk.cell K_q.out 0).trans (rfl : _ = some (Value.int .i64 px))
        have q1 := (Blk.cell K_q.out 1).trans (rfl : _ = some (Value.int .i64 py))
        go_wp2_with fail
        refine (pne_any _ _ L false px py (HV.out.below HB.out) hL (HS.out.below HB.out (Nat.le_refl _))).mono ?_
        rw [F0.out]
        rintro e v1 ⟨rfl, hb1⟩
        clear x0 x1 q0 q1
        replace K_x := hide (Blk.below K_x.out hb1 (Blk.lt K_x.out))
        replace K_q := hide (Blk.below K_q.out hb1 (Blk.lt K_q.out))
        replace HB := hide (HB.out.trans (hb1.mono HB.out.size))
        replace HB2 := hide (HB2.out.trans (hb1.mono HB2.out.size))
        clear hb1
        have x0 := (Blk.cell K_x.out 0).trans (rfl : _ = some (Value.slice (some ⟨b, off, none⟩) L.length c))
        have x1 := (Blk.cell K_x.out 1).trans (rfl : _ = some (Value.bool c0))
        have q0 := (Blk.cell K_q.out 0).trans (rfl : _ = some (Value.int .i64 px))
        have q1 := (Blk.cell K_q.out 1).trans (rfl : _ = some (Value.int .i64 py))
        go_wp2_with fail
        refine (pne_any _ _ L true px py (HV.out.below HB.out) hL (HS.out.below HB.out (Nat.le_refl _))).mono ?_
        rw [F1.out]
        rintro e v2 ⟨rfl, hb2⟩
        clear x0 x1 q0 q1
        replace K_x := hide (Blk.below K_x.out hb2 (Blk.lt K_x.out))
        replace K_q := hide (Blk.below K_q.out hb2 (Blk.lt K_q.out))
        replace HB := hide (HB.out.trans (hb2.mono HB.out.size))
        replace HB2 := hide (HB2.out.trans (hb2.mono HB2.out.size))
        clear hb2
        go_wp2_with fail
        refine (HCM.out _ (HS.out.below HB.out (Nat.le_refl _))).mono ?_
        rintro e v3 ⟨rfl, hb3⟩
        replace K_x := hide (Blk.below K_x.out hb3 (Blk.lt K_x.out))
        replace K_q := hide (Blk.below K_q.out hb3 (Blk.lt K_q.out))
        replace HB := hide (HB.out.trans (hb3.mono HB.out.size))
        replace HB2 := hide (HB2.out.trans (hb3.mono HB2.out.size))
        clear hb3
        go_wp2_with fail
        go_roundg (gk - 1)
        case measure => have := HQ.out; omega
        case rel => exact ⟨j + 1, by go_num, by have := HQ.out; omega, HB2.out⟩
      · skip
        have hji : ¬ (j : Int) < (P.length : Int) := by omega
        go_wp2_with fail
        refine (awake_any _ (HS.out.below HB.out (Nat.le_refl _))).mono ?_
        rintro e v4 ⟨rfl, hb4⟩
        have HE := hide (HB.out.trans (hb4.mono HB.out.size))
        go_wp2_with fail
        go_ret
        exact ⟨rfl, HE.out⟩

set_option maxRecDepth 100000 in
set_option maxHeartbeats 4000000 in
theorem grows_any (w : World) (v : Value) (L : List S2) (c0 : Bool) (hv : Pts w v L) (vp : Value) (P : List S2) (hvp : Pts w vp P) (t : Int) (ht : 0 ≤ t ∧ t < 256) (hs : Std w) :
    Calls Tryz.prog 9 #[.agg #[v, .bool c0], vp, .int .u8 t] w fun e w' => e = .returned (.bool true) ∧ Below w.heap.size w w' := by
  by_cases h8 : L.length ≤ 8
  · by_cases hc : chkP L c0 = 0
    · by_cases hP0 : 0 < P.length
      · by_cases hP8 : P.length ≤ 8
        · by_cases hk : chkPtsN P = 0
          · by_cases h3 : L.length < 3
            · exact grows_short w v L c0 hv vp P hvp t ht hs h8 hc hP0 hP8 hk h3
            · by_cases heq : gP L 0 = gP L (L.length - 1)
              · exact grows_eq w v L c0 hv vp P hvp t ht hs h8 hc hP0 hP8 hk h3 heq
              · by_cases hx : (gP L 0).1 = (gP L (L.length - 1)).1
                · exact grows_ny w v L c0 hv vp P hvp t ht hs h8 hc hP0 hP8 hk (by omega) heq hx (fun hy => heq (Prod.ext hx hy))
                · exact grows_nx w v L c0 hv vp P hvp t ht hs h8 hc hP0 hP8 hk (by omega) heq hx
          · skip
            have HV := hide hv
            have HVP := hide hvp
            have HS := hide hs
            obtain ⟨A, c, rfl, _⟩ := id hv
            obtain ⟨A2, c2, rfl, hpc⟩ := id hvp
            have HPC := hide hpc
            clear hv hs hvp hpc
            have HB := allocs_below w [.cells #[.slice A L.length c, .bool c0] 34]
            have K_x : Blk (allocs w [.cells #[.slice A L.length c, .bool c0] 34]) (w.heap.size + 0) 34 #[.slice A L.length c, .bool c0] := allocs_at w [.cells #[.slice A L.length c, .bool c0] 34] 0 rfl
            unfold allocs at HB K_x
            simp only [List.foldl_cons, List.foldl_nil] at HB K_x
            rw [Nat.add_zero] at K_x
            have hi : ¬ 8 < (L.length : Int) := by omega
            have HK := hide hc
            have hi2 : ¬ 8 < (P.length : Int) := by omega
            have hn0 : ((P.length : Int) == 0) = false := by rw [beq_eq_false_iff_ne]; omega
            obtain ⟨k, hk0⟩ : ∃ k, chkPtsN P = k := ⟨_, rfl⟩
            rw [hk0] at hk
            have hk1 : (k != 0) = true := by simpa using hk
            have HK2 := hide hk0
            clear hc hk0
            go_enter Tryz.func9, Tryz.ntmps9
            go_upto_region 1 with (fail)
            generalize (w.alloc (.cells #[.slice A L.length c, .bool c0] 34)) = w0 at *
            replace K_x := hide K_x
            replace HB := hide HB
            have x0 := (Blk.cell K_x.out 0).trans (rfl : _ = some (Value.slice A L.length c))
            have x1 := (Blk.cell K_x.out 1).trans (rfl : _ = some (Value.bool c0))
            go_wp2_with fail
            refine (rpcheck_any _ _ L c0 (HV.out.below HB.out) (by omega)).mono ?_
            rw [HK.out]
            rintro e w1 ⟨rfl, hb⟩
            clear x0 x1
            replace K_x := hide (Blk.below K_x.out hb (Blk.lt K_x.out))
            replace HB := hide (HB.out.trans (hb.mono HB.out.size))
            clear hb
            have x0 := (Blk.cell K_x.out 0).trans (rfl : _ = some (Value.slice A L.length c))
            have x1 := (Blk.cell K_x.out 1).trans (rfl : _ = some (Value.bool c0))
            go_wp2_with fail
            refine (rCheck_any _ _ P (HVP.out.below HB.out) (by omega)).mono ?_
            rw [HK2.out]
            rintro e w2 ⟨rfl, hb⟩
            clear x0 x1
            replace K_x := hide (Blk.below K_x.out hb (Blk.lt K_x.out))
            replace HB := hide (HB.out.trans (hb.mono HB.out.size))
            clear hb
            go_wp2_with fail
            refine (awake_any _ (HS.out.below HB.out (Nat.le_refl _))).mono ?_
            rintro e w3 ⟨rfl, hb⟩
            replace K_x := hide (Blk.below K_x.out hb (Blk.lt K_x.out))
            replace HB := hide (HB.out.trans (hb.mono HB.out.size))
            clear hb
            go_wp2_with fail
            go_ret
            exact ⟨rfl, HB.out⟩
        · skip
          have HV := hide hv
          have HVP := hide hvp
          have HS := hide hs
          obtain ⟨A, c, rfl, _⟩ := id hv
          obtain ⟨A2, c2, rfl, hpc⟩ := id hvp
          have HPC := hide hpc
          clear hv hs hvp hpc
          have HB := allocs_below w [.cells #[.slice A L.length c, .bool c0] 34]
          have K_x : Blk (allocs w [.cells #[.slice A L.length c, .bool c0] 34]) (w.heap.size + 0) 34 #[.slice A L.length c, .bool c0] := allocs_at w [.cells #[.slice A L.length c, .bool c0] 34] 0 rfl
          unfold allocs at HB K_x
          simp only [List.foldl_cons, List.foldl_nil] at HB K_x
          rw [Nat.add_zero] at K_x
          have hi : ¬ 8 < (L.length : Int) := by omega
          have HK := hide hc
          have hi2 : 8 < (P.length : Int) := by omega
          have hn0 : ((P.length : Int) == 0) = false := by rw [beq_eq_false_iff_ne]; omega
          clear hc
          go_enter Tryz.func9, Tryz.ntmps9
          go_upto_region 1 with (fail)
          generalize (w.alloc (.cells #[.slice A L.length c, .bool c0] 34)) = w0 at *
          replace K_x := hide K_x
          replace HB := hide HB
          have x0 := (Blk.cell K_x.out 0).trans (rfl : _ = some (Value.slice A L.length c))
          have x1 := (Blk.cell K_x.out 1).trans (rfl : _ = some (Value.bool c0))
          go_wp2_with fail
          refine (rpcheck_any _ _ L c0 (HV.out.below HB.out) (by omega)).mono ?_
          rw [HK.out]
          rintro e w1 ⟨rfl, hb⟩
          clear x0 x1
          replace K_x := hide (Blk.below K_x.out hb (Blk.lt K_x.out))
          replace HB := hide (HB.out.trans (hb.mono HB.out.size))
          clear hb
          go_wp2_with fail
          refine (awake_any _ (HS.out.below HB.out (Nat.le_refl _))).mono ?_
          rintro e w2 ⟨rfl, hb⟩
          replace K_x := hide (Blk.below K_x.out hb (Blk.lt K_x.out))
          replace HB := hide (HB.out.trans (hb.mono HB.out.size))
          clear hb
          go_wp2_with fail
          go_ret
          exact ⟨rfl, HB.out⟩
      · skip
        have HV := hide hv
        have HVP := hide hvp
        have HS := hide hs
        obtain ⟨A, c, rfl, _⟩ := id hv
        obtain ⟨A2, c2, rfl, hpc⟩ := id hvp
        have HPC := hide hpc
        clear hv hs hvp hpc
        have HB := allocs_below w [.cells #[.slice A L.length c, .bool c0] 34]
        have K_x : Blk (allocs w [.cells #[.slice A L.length c, .bool c0] 34]) (w.heap.size + 0) 34 #[.slice A L.length c, .bool c0] := allocs_at w [.cells #[.slice A L.length c, .bool c0] 34] 0 rfl
        unfold allocs at HB K_x
        simp only [List.foldl_cons, List.foldl_nil] at HB K_x
        rw [Nat.add_zero] at K_x
        have hi : ¬ 8 < (L.length : Int) := by omega
        have HK := hide hc
        obtain rfl : P = [] := List.length_eq_zero_iff.1 (by omega)
        clear hc hP0
        go_enter Tryz.func9, Tryz.ntmps9
        go_upto_region 1 with (fail)
        generalize (w.alloc (.cells #[.slice A L.length c, .bool c0] 34)) = w0 at *
        replace K_x := hide K_x
        replace HB := hide HB
        have x0 := (Blk.cell K_x.out 0).trans (rfl : _ = some (Value.slice A L.length c))
        have x1 := (Blk.cell K_x.out 1).trans (rfl : _ = some (Value.bool c0))
        go_wp2_with fail
        refine (rpcheck_any _ _ L c0 (HV.out.below HB.out) (by omega)).mono ?_
        rw [HK.out]
        rintro e w1 ⟨rfl, hb⟩
        clear x0 x1
        replace K_x := hide (Blk.below K_x.out hb (Blk.lt K_x.out))
        replace HB := hide (HB.out.trans (hb.mono HB.out.size))
        clear hb
        go_wp2_with fail
        refine (awake_any _ (HS.out.below HB.out (Nat.le_refl _))).mono ?_
        rintro e w2 ⟨rfl, hb⟩
        replace K_x := hide (Blk.below K_x.out hb (Blk.lt K_x.out))
        replace HB := hide (HB.out.trans (hb.mono HB.out.size))
        clear hb
        go_wp2_with fail
        go_ret
        exact ⟨rfl, HB.out⟩
    · skip
      have HV := hide hv
      have HVP := hide hvp
      have HS := hide hs
      obtain ⟨A, c, rfl, _⟩ := id hv
      obtain ⟨A2, c2, rfl, hpc⟩ := id hvp
      have HPC := hide hpc
      clear hv hs hvp hpc
      have HB := allocs_below w [.cells #[.slice A L.length c, .bool c0] 34]
      have K_x : Blk (allocs w [.cells #[.slice A L.length c, .bool c0] 34]) (w.heap.size + 0) 34 #[.slice A L.length c, .bool c0] := allocs_at w [.cells #[.slice A L.length c, .bool c0] 34] 0 rfl
      unfold allocs at HB K_x
      simp only [List.foldl_cons, List.foldl_nil] at HB K_x
      rw [Nat.add_zero] at K_x
      have hi : ¬ 8 < (L.length : Int) := by omega
      obtain ⟨k, hk0⟩ : ∃ k, chkP L c0 = k := ⟨_, rfl⟩
      rw [hk0] at hc
      have hk1 : (k != 0) = true := by simpa using hc
      have HK := hide hk0
      clear hk0
      go_enter Tryz.func9, Tryz.ntmps9
      go_upto_region 1 with (fail)
      generalize (w.alloc (.cells #[.slice A L.length c, .bool c0] 34)) = w0 at *
      replace K_x := hide K_x
      replace HB := hide HB
      have x0 := (Blk.cell K_x.out 0).trans (rfl : _ = some (Value.slice A L.length c))
      have x1 := (Blk.cell K_x.out 1).trans (rfl : _ = some (Value.bool c0))
      go_wp2_with fail
      refine (rpcheck_any _ _ L c0 (HV.out.below HB.out) (by omega)).mono ?_
      rw [HK.out]
      rintro e w1 ⟨rfl, hb⟩
      clear x0 x1
      replace K_x := hide (Blk.below K_x.out hb (Blk.lt K_x.out))
      replace HB := hide (HB.out.trans (hb.mono HB.out.size))
      clear hb
      go_wp2_with fail
      refine (awake_any _ (HS.out.below HB.out (Nat.le_refl _))).mono ?_
      rintro e w2 ⟨rfl, hb⟩
      replace K_x := hide (Blk.below K_x.out hb (Blk.lt K_x.out))
      replace HB := hide (HB.out.trans (hb.mono HB.out.size))
      clear hb
      go_wp2_with fail
      go_ret
      exact ⟨rfl, HB.out⟩
  · skip
    have HV := hide hv
    have HVP := hide hvp
    have HS := hide hs
    obtain ⟨A, c, rfl, _⟩ := id hv
    obtain ⟨A2, c2, rfl, hpc⟩ := id hvp
    have HPC := hide hpc
    clear hv hs hvp hpc
    have HB := allocs_below w [.cells #[.slice A L.length c, .bool c0] 34]
    have K_x : Blk (allocs w [.cells #[.slice A L.length c, .bool c0] 34]) (w.heap.size + 0) 34 #[.slice A L.length c, .bool c0] := allocs_at w [.cells #[.slice A L.length c, .bool c0] 34] 0 rfl
    unfold allocs at HB K_x
    simp only [List.foldl_cons, List.foldl_nil] at HB K_x
    rw [Nat.add_zero] at K_x
    have hi : 8 < (L.length : Int) := by omega
    clear h8
    go_enter Tryz.func9, Tryz.ntmps9
    go_upto_region 1 with (fail)
    generalize (w.alloc (.cells #[.slice A L.length c, .bool c0] 34)) = w0 at *
    replace K_x := hide K_x
    replace HB := hide HB
    have x0 := (Blk.cell K_x.out 0).trans (rfl : _ = some (Value.slice A L.length c))
    have x1 := (Blk.cell K_x.out 1).trans (rfl : _ = some (Value.bool c0))
    go_wp2_with fail
    refine (awake_any _ (HS.out.below HB.out (Nat.le_refl _))).mono ?_
    rintro e w1 ⟨rfl, hb⟩
    clear x0 x1
    replace K_x := hide (Blk.below K_x.out hb (Blk.lt K_x.out))
    replace HB := hide (HB.out.trans (hb.mono HB.out.size))
    clear hb
    go_wp2_with fail
    go_ret
    exact ⟨rfl, HB.out⟩
end Go.Proofs.YtendaaghmeoddaaGreatDoor
