/- whole.times multiplies; whole.plus adds. -/
import Derived.Test.YtblfinpfcpglcaaGreatDoorBeyond
import Derived.Test.YtblfinpfcpglcaaGreatDoorCarry
import Derived.RegionTactic
import Derived.Laws.Tables
namespace Go.Proofs.YtblfinpfcpglcaaGreatDoor
open Go.RowKit MLab

theorem num_mul_lt {dx dz : Nat → Nat} {nx i : Nat} (h1 : Lows dx) (h2 : Lows dz) (h : nx + i ≤ 232) : num dx nx * num dz i < W9 ^ 232 := by
  have a := num_lt h1 nx
  have b := num_lt h2 i
  have c : num dx nx * num dz i ≤ num dx nx * W9 ^ i := Nat.mul_le_mul_left _ (by omega)
  have d : num dx nx * W9 ^ i < W9 ^ nx * W9 ^ i := Nat.mul_lt_mul_of_pos_right a (W9_pos i)
  rw [← Nat.pow_add] at d
  have e : W9 ^ (nx + i) ≤ W9 ^ 232 := Nat.pow_le_pow_right (by decide) h
  omega

set_option maxRecDepth 100000 in
set_option maxHeartbeats 1000000 in
theorem times_any (w : World) (bx bz : Nat) (lx lz : Bool) (nx nz : Nat) (dx dz : Nat → Nat) (hx : Wd w bx lx nx dx) (hz : Wd w bz lz nz dz) (rx : Rt nx dx) (rz : Rt nz dz) (hfit : nx + nz ≤ 232) :
    Calls Tryz.prog 121 #[.pointer (some ⟨bx, 0, none⟩), .pointer (some ⟨bz, 0, none⟩)] w fun e w' =>
      e = .returned (.pointer (some ⟨w.heap.size, 0, none⟩)) ∧ Below w.heap.size w w' ∧ ∃ m d, Wd w' w.heap.size (lx != lz) m d ∧ Rt m d ∧ num d m = num dx nx * num dz nz := by
  have hx1 := hx.sgn
  have hz1 := hz.sgn
  have hz2 := hz.cnt
  have hz232 := rz.fits
  have HX := hide hx
  have HZ := hide hz
  have HRX := hide rx
  have HRZ := hide rz
  have hbx := hx.lt
  have hbz := hz.lt
  clear hx hz rx rz
  go_enter Tryz.func121, Tryz.ntmps121
  go_wp2_with fail
  go_region
  go_wp2_with fail
  have hw0 : Wd ((w.alloc (.cells (Tryz.zeroCells172.setIfInBounds 0 (.bool (!(lx == lz)))) 172)).drew) w.heap.size (lx != lz) 0 (fun _ => 0) := (Wd.newl w (lx != lz)).drew
  have hb0 : Below w.heap.size w ((w.alloc (.cells (Tryz.zeroCells172.setIfInBounds 0 (.bool (!(lx == lz)))) 172)).drew) := ((Below.refl _ _).alloc (Nat.le_refl _) _).drew
  have H0 := hide hw0
  have HB0 := hide hb0
  clear hw0 hb0 hx1 hz1 hz2
  go_loopg [22] nz (fun k i wr => ∃ (j m : Nat) (d : Nat → Nat), i = .int .i64 (j : Int) ∧ k + j = nz ∧ Wd wr w.heap.size (lx != lz) m d ∧ Rt m d ∧ Below w.heap.size w wr ∧ num d m = num dx nx * num dz j)
  case atStart => exact ⟨0, 0, fun _ => 0, rfl, rfl, H0.out, ⟨fun _ => by decide, fun _ _ => rfl, .inl rfl, by omega⟩, HB0.out, by simp [num]⟩
  case round =>
    obtain ⟨j, m, d, rfl, hkj, hW, hR, hB, hn⟩ := hrel
    have HK := hide hkj
    have HW := hide hW
    have HR := hide hR
    have HB := hide hB
    have HN := hide hn
    have hj : j ≤ nz := by omega
    clear hkj hW hR hB hn H0 HB0
    by_cases hlt : j < nz
    · have hz3 : wr.cell? ⟨bz, 2 + j, none⟩ = some (.int .i64 (dz j : Int)) := (HZ.out.below HB.out hbz).at_ (by omega)
      have hzj : dz j < 1000000000 := HRZ.out.lows j
      have hltI : (j : Int) < (nz : Int) := by omega
      have hmul : num dx nx * num dz (j + 1) = num dx nx * num dz j + dz j * num dx nx * W9 ^ j := by
        rw [num_succ, Nat.mul_add, ← Nat.mul_assoc, Nat.mul_comm (num dx nx) (dz j)]
      have hZ : (num d m : Int) + (dz j : Int) * num dx nx * ((W9 ^ j : Nat) : Int) = ((num dx nx * num dz (j + 1) : Nat) : Int) := by
        rw [hmul, HN.out]; simp
      have hZ2 : num dx nx * num dz (j + 1) < W9 ^ 232 := num_mul_lt HRX.out.lows HRZ.out.lows (by omega)
      have HZZ := hide hZ
      have HZ2 := hide hZ2
      clear hmul hZ hZ2
      go_wp2_with fail
      refine (carry_any _ _ _ _ _ _ _ _ _ (dz j : Int) j (num dx nx * num dz (j + 1)) HW.out (HX.out.below HB.out hbx) (by omega) HR.out HRX.out (by omega) (by omega) (by omega) HZZ.out HZ2.out).mono ?_
      rintro ee w5 ⟨rfl, m2, d3, hg5, hW5, hR5, hn5⟩
      have H5 := hide hn5
      have H7 := hide hg5
      have H8 := hide hW5
      have H9 := hide hR5
      clear hn5 hg5 hW5 hR5
      go_wp2_with fail
      go_roundg (gk - 1)
      case measure => have := HK.out; omega
      case rel => exact ⟨j + 1, m2, d3, by go_num, by have := HK.out; omega, H8.out, H9.out, below_only HB.out H7.out (by have := HB.out.size; omega) (Nat.le_refl _), H5.out⟩
    · obtain rfl : j = nz := by omega
      have hltI : ¬ (j : Int) < (j : Int) := by omega
      go_wp2_with fail
      go_ret
      exact ⟨rfl, HB.out, m, d, HW.out, HR.out, HN.out⟩

/-! ### plus -/

/-- The number with a sign. -/
def sval (l : Bool) (N : Nat) : Int := if l then -(N : Int) else (N : Int)

/-- Block b is a right number with a sign, of this value. -/
def Sgd (w : World) (b : Nat) (v : Int) : Prop := ∃ l m d, Wd w b l m d ∧ Rt m d ∧ sval l (num d m) = v

theorem wide_info : (Tryz.prog.info? 172).map (·.size) = some 234 := by kernel_rfl

theorem Wd.ones {w : World} {b n : Nat} {l : Bool} {d : Nat → Nat} {cs : Array Value} (h : Blk w b 172 cs ∧ cs.size = 234 ∧ cs[0]? = some (.bool l) ∧ cs[1]? = some (.int .i64 (n : Int)) ∧ ∀ i, i < 232 → cs[2 + i]? = some (.int .i64 (d i : Int))) : cs.all (·.oneCell') = true := by
  obtain ⟨_, h1, h2, h3, h4⟩ := h
  rw [Array.all_eq_true]
  intro i hi
  have hv : cs[i]? = some cs[i] := Array.getElem?_eq_getElem hi
  by_cases h0 : i = 0
  · subst h0; rw [h2] at hv; injection hv with hv; rw [← hv]; rfl
  · by_cases h1' : i = 1
    · subst h1'; rw [h3] at hv; injection hv with hv; rw [← hv]; rfl
    · have := h4 (i - 2) (by omega)
      rw [show 2 + (i - 2) = i by omega, hv] at this
      injection this with this
      rw [this]; rfl

theorem results_none {fn : Func} (h : fn.results = #[]) (tmps : Array Value) (P : Program) (w : World) : (results fn tmps).run P w = .ok (.tuple #[]) w := by simp [results, h]

set_option maxRecDepth 100000 in
set_option maxHeartbeats 1000000 in
theorem plus_any (w : World) (bx bz : Nat) (lx lz : Bool) (nx nz : Nat) (dx dz : Nat → Nat) (hx : Wd w bx lx nx dx) (hz : Wd w bz lz nz dz) (hne : bx ≠ bz) (rx : Rt nx dx) (rz : Rt nz dz) (hfit : num dx nx + num dz nz < W9 ^ 232) :
    Calls Tryz.prog 146 #[.pointer (some ⟨bx, 0, none⟩), .pointer (some ⟨bz, 0, none⟩)] w fun e w' =>
      e = .returned (.tuple #[]) ∧ w.grownBy w' (some bx) ∧ Sgd w' bx (sval lx (num dx nx) + sval lz (num dz nz)) := by
  have hx1 := hx.sgn
  have hz1 := hz.sgn
  have HX := hide hx
  have HZ := hide hz
  have HRX := hide rx
  have HRZ := hide rz
  have HF := hide hfit
  clear hx hz rx rz hfit
  by_cases hs : lx = lz
  · have hb : (lx == lz) = true := by rw [hs]; exact beq_self_eq_true lz
    have HS := hide hs
    clear hs
    go_enter Tryz.func146, Tryz.ntmps146
    go_wp2_with fail
    go_quiet (fail)
    go_wp2_with fail
    refine (carry_zero _ _ _ _ _ _ _ _ _ 1 (num dx nx + num dz nz) (HX.out.drewN _) (HZ.out.drewN _) hne HRX.out HRZ.out (by omega) (by omega) (by simp) HF.out).mono ?_
    rintro ee w5 ⟨rfl, m2, d3, hg5, hW5, hR5, hn5⟩
    have H5 := hide hn5
    have H7 := hide hg5
    have H8 := hide hW5
    have H9 := hide hR5
    clear hn5 hg5 hW5 hR5
    go_wp2_with fail
    refine bodyPost_ret (results_none rfl _ _ _) rfl ?_
    refine ⟨rfl, only_trans (only_drewN (only_refl _ _) _) H7.out, lx, m2, d3, H8.out, H9.out, ?_⟩
    rw [H5.out, ← HS.out]; unfold sval; cases lx <;> simp <;> omega
  · have hb : (lx == lz) = false := by rw [beq_eq_false_iff_ne]; exact hs
    have HS := hide hs
    clear hs
    go_enter Tryz.func146, Tryz.ntmps146
    go_wp2_with fail
    go_quiet (fail)
    go_wp2_with fail
    refine (beyond_any _ _ _ _ _ _ _ _ _ (HX.out.drewN _) (HZ.out.drewN _) HRX.out HRZ.out).mono ?_
    rintro ee w3 ⟨⟨c, rfl, hc⟩, qd, rfl⟩
    have HCC := hide hc
    clear hc
    by_cases hc0 : c < 0
    · have hc1 : ¬ (0 : Int) ≤ c := by omega
      have hlt : num dx nx < num dz nz := by rcases HCC.out with ⟨_, h⟩ | ⟨h, _⟩ | ⟨h, _⟩ <;> omega
      have hz1 : (num dz nz : Int) + -1 * num dx nx = ((num dz nz - num dx nx : Nat) : Int) := by omega
      have hz2 : num dz nz - num dx nx < W9 ^ 232 := by have := HF.out; omega
      have HZ1 := hide hz1
      have HZ2 := hide hz2
      have hbx := HX.out.lt
      clear hz1 hz2
      obtain ⟨cs, hblk, hsz, hcs⟩ := HZ.out
      have hone := Wd.ones ⟨hblk, hsz, hcs⟩
      have hi : (Tryz.prog.info? 172).map (·.size) = some cs.size := by rw [hsz]; exact wide_info
      have HBLK := hide hblk
      have HSZ := hide hsz
      have HCS := hide hcs
      have HONE := hide hone
      have HI := hide hi
      clear hblk hsz hcs hone hi
      go_wp2_with (first
        | (refine wpList_load_row rfl 172 (.tmp 25) rfl bz rfl 172 cs (0, 0) _ (HBLK.out.drewN _) Tryz.underlying172 rfl HI.out ?_)
        | (refine wpList_store_row rfl 172 (.tmp 4) (.tmp 26) rfl w.heap.size cs rfl rfl 172 Tryz.zeroCells172 (Blk.new _ _ _) HI.out (by rw [HSZ.out, zero_words]; simp) HONE.out ?_))
      refine (carry_zero _ _ _ lz lx nz nx dz dx (-1) (num dz nz - num dx nx) ?wz1 ?wx1 (by omega) HRZ.out HRX.out (by omega) (by omega) HZ1.out HZ2.out).mono ?_
      case wz1 => exact ⟨cs, setRow_heap _ _ _ cs _ _ (Blk.new _ _ _), HSZ.out, HCS.out⟩
      case wx1 => exact Wd.keep ((HX.out.drewN _).alloc _) (setRow_other _ _ _ _ (by omega))
      rintro ee w5 ⟨rfl, m2, d3, hg5, hW5, hR5, hn5⟩
      obtain ⟨cx, hbx5, hsx5, hcx5⟩ : Wd w5 bx lx nx dx := (Wd.keep ((HX.out.drewN _).alloc _) (setRow_other _ _ _ _ (by omega))).grown hg5 (by simp; omega)
      obtain ⟨c5, hblk5, hsz5, hcs5⟩ := hW5
      have hone5 := Wd.ones ⟨hblk5, hsz5, hcs5⟩
      have hi5 : (Tryz.prog.info? 172).map (·.size) = some c5.size := by rw [hsz5]; exact wide_info
      have hss : cx.size = c5.size := by rw [hsx5, hsz5]
      have K1 := hide hblk5
      have K2 := hide hsz5
      have K3 := hide hcs5
      have K4 := hide hone5
      have K5 := hide hi5
      have K6 := hide hbx5
      have K7 := hide hss
      have H5 := hide hn5
      have H7 := hide hg5
      have H9 := hide hR5
      clear hblk5 hsz5 hcs5 hone5 hi5 hbx5 hsx5 hcx5 hss hn5 hg5 hR5
      go_wp2_with (first
        | (refine wpList_load_row rfl 172 (.tmp 4) rfl w.heap.size rfl 172 c5 (0, 0) _ K1.out Tryz.underlying172 rfl K5.out ?_)
        | (refine wpList_store_row rfl 172 (.tmp 31) (.tmp 30) rfl bx c5 rfl rfl 172 cx K6.out K5.out K7.out K4.out ?_))
      go_end0
      refine ⟨rfl, only_setRow (only_new (only_setRow (only_alloc (only_drewN (only_refl _ _) _) _) (.inr (Nat.le_refl _)) _) H7.out (Nat.le_refl _)) (.inl rfl) _, lz, m2, d3, ⟨c5, setRow_heap _ _ _ _ _ _ K6.out, K2.out, K3.out⟩, H9.out, ?_⟩
      have hs := HS.out
      rw [H5.out]; unfold sval; cases lx <;> cases lz <;> simp at hs ⊢ <;> omega
    · have hc1 : (0 : Int) ≤ c := by omega
      have hge : num dz nz ≤ num dx nx := by rcases HCC.out with ⟨h, _⟩ | ⟨_, h⟩ | ⟨_, h⟩ <;> omega
      have hz1 : (num dx nx : Int) + -1 * num dz nz = ((num dx nx - num dz nz : Nat) : Int) := by omega
      have hz2 : num dx nx - num dz nz < W9 ^ 232 := by have := HF.out; omega
      have HZ1 := hide hz1
      have HZ2 := hide hz2
      clear hz1 hz2
      go_wp2_with fail
      refine (carry_zero _ _ _ _ _ _ _ _ _ (-1) (num dx nx - num dz nz) (HX.out.drewN _) (HZ.out.drewN _) hne HRX.out HRZ.out (by omega) (by omega) HZ1.out HZ2.out).mono ?_
      rintro ee w5 ⟨rfl, m2, d3, hg5, hW5, hR5, hn5⟩
      have H5 := hide hn5
      have H7 := hide hg5
      have H8 := hide hW5
      have H9 := hide hR5
      clear hn5 hg5 hW5 hR5
      go_wp2_with fail
      refine bodyPost_ret (results_none rfl _ _ _) rfl ?_
      refine ⟨rfl, only_trans (only_drewN (only_refl _ _) _) H7.out, lx, m2, d3, H8.out, H9.out, ?_⟩
      have hs := HS.out
      rw [H5.out]; unfold sval; cases lx <;> cases lz <;> simp at hs ⊢ <;> omega
end Go.Proofs.YtblfinpfcpglcaaGreatDoor
