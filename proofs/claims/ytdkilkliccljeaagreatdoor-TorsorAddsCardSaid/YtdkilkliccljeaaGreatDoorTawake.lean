/- law 40: slices.Equal of two slices that read alike; the examples of the chapter. -/
import Derived.Test.YtdkilkliccljeaaGreatDoorRtabout
import Derived.Test.YtdkilkliccljeaaGreatDoorPts
namespace Go.Proofs.YtdkilkliccljeaaGreatDoor
open Go.RowKit MLab

set_option maxRecDepth 100000 in
set_option maxHeartbeats 2000000 in
theorem equal_six (w : World) (va vb : Value) (r : Nat → ByteArray) (ha : Six r va w) (hb : Six r vb w) :
    Calls Tryz.prog 22 #[va, vb] w fun e w' => e = .returned (.bool true) ∧ Below w.heap.size w w' := by
  obtain ⟨ga, ca, rfl, hca⟩ := ha
  obtain ⟨gb, cb, rfl, hcb⟩ := hb
  have HCA := hide hca
  have HCB := hide hcb
  clear hca hcb
  go_enter Tryz.func22, Tryz.ntmps22
  go_wp2_with fail
  go_loopg [13] 6 (fun n iv wr => ∃ j : Nat, iv = .int .i64 (j : Int) ∧ n + j = 6 ∧ Below w.heap.size w wr)
  case atStart => exact ⟨0, rfl, rfl, Below.refl _ _⟩
  case round =>
    obtain ⟨j, rfl, hn, hb⟩ := hrel
    have HN := hide hn
    have HB := hide hb
    have hile : j ≤ 6 := by omega
    clear hn hb
    by_cases hlt : j < 6
    · have hii : (j : Int) < 6 := by omega
      have hi0 : (0 : Int) ≤ (j : Int) := by omega
      have p0 : wr.cell? ⟨ga, j, none⟩ = some (.string (r j)) := (HB.out.cell (p := ⟨ga, j, none⟩) (block_lt_of_cell (HCA.out j hlt))).trans (HCA.out j hlt)
      have p1 : wr.cell? ⟨gb, j, none⟩ = some (.string (r j)) := (HB.out.cell (p := ⟨gb, j, none⟩) (block_lt_of_cell (HCB.out j hlt))).trans (HCB.out j hlt)
      obtain ⟨s, hs⟩ : ∃ s, r j = s := ⟨_, rfl⟩
      rw [hs] at p0 p1
      have e1 : (s.toList == s.toList) = true := by simp
      clear hs
      go_upto_region 6 with (fail)
      go_region_held3 (fun w' => Below wr.heap.size wr w' ∧ w'.cell? ⟨ga, j, none⟩ = some (.string s) ∧ w'.cell? ⟨gb, j, none⟩ = some (.string s)) (exact ⟨(Below.refl _ _).drew, p0, p1⟩) (fail)
      obtain ⟨hbx, _⟩ : Below wr.heap.size wr _ ∧ _ := by assumption
      have HX := hide (HB.out.trans (hbx.mono HB.out.size))
      clear hbx p0 p1
      go_wp2_with fail
      go_roundg (gk - 1)
      case measure => have := HN.out; omega
      case rel => exact ⟨j + 1, by go_num, by have := HN.out; omega, HX.out⟩
    · have hii : ¬ (j : Int) < 6 := by omega
      go_wp2_with fail
      go_ret
      exact ⟨rfl, HB.out⟩

set_option maxRecDepth 100000 in
set_option maxHeartbeats 1000000 in
theorem equal_nil (w : World) :
    Calls Tryz.prog 22 #[.slice none 0 0, .slice none 0 0] w fun e w' => e = .returned (.bool true) ∧ Below w.heap.size w w' := by
  go_enter Tryz.func22, Tryz.ntmps22
  go_wp2_with fail
  go_loopg [13] 0 (fun _ iv wr => iv = .int .i64 0 ∧ wr = w)
  case atStart => exact ⟨rfl, rfl⟩
  case round =>
    obtain ⟨rfl, rfl⟩ := hrel
    go_wp2_with fail
    go_ret
    exact ⟨rfl, Below.refl _ _⟩

def qa : Nat → Rat := fun i => if i = 2 then 1 else if i = 5 then 1/100 else 0
theorem qa_sz (i : Nat) : Sz 24 24 (qa i) := by
  unfold qa
  split
  · exact ⟨of_decide_eq_true (by kernel_rfl), of_decide_eq_true (by kernel_rfl)⟩
  · split
    · exact ⟨of_decide_eq_true (by kernel_rfl), of_decide_eq_true (by kernel_rfl)⟩
    · exact ⟨of_decide_eq_true (by kernel_rfl), of_decide_eq_true (by kernel_rfl)⟩

set_option maxRecDepth 100000 in
set_option maxHeartbeats 8000000 in
theorem awake40 (w : World) (hs : Std w) : Calls Tryz.prog 11 #[] w fun e w' => e = .returned (.bool true) ∧ Below w.heap.size w w' := by
  have HS := hide hs
  clear hs
  have sz : ∀ {s : ByteArray}, s.size ≤ 1000 → s.size ≤ maxLen := fun h => by unfold maxLen; omega
  have h1 := fun w hw => tapply_ok w ⟨#[48]⟩ ⟨#[48]⟩ ⟨#[49]⟩ ⟨#[48]⟩ ⟨#[48]⟩ ⟨#[49, 47, 49, 48, 48]⟩ qa 100 200 0 (m := 24) (by omega) (fun i _ => qa_sz i) ⟨by kernel_rfl, by kernel_rfl, by kernel_rfl, by kernel_rfl, by kernel_rfl, by kernel_rfl⟩ (by decide) hw
  rw [show (⟨(RT (mvd 0 100 200 0 qa)).toArray⟩ : ByteArray) = ⟨#[57, 56]⟩ from by kernel_rfl] at h1
  rw [show (⟨(RT (mvd 1 100 200 0 qa)).toArray⟩ : ByteArray) = ⟨#[50, 48, 49]⟩ from by kernel_rfl] at h1
  rw [show (⟨(RT (mvd 2 100 200 0 qa)).toArray⟩ : ByteArray) = ⟨#[49]⟩ from by kernel_rfl] at h1
  have H1 := hide h1
  clear h1
  have H2 := hide (show ∀ w, Std w → Calls Tryz.prog 18 #[.int .i64 1, .agg #[.int .i64 100, .int .i64 200, .int .i64 5]] w fun e w' => FormR (frmT 1 100 200 5) 0 e w' ∧ Below w.heap.size w w' from fun w hw => tForm_ok w 1 (by omega) 100 200 5 (by decide) hw)
  have h3 := fun w hw => tabout2 w 2 4 0 (1/2) (m := 24) (by omega) ⟨of_decide_eq_true (by kernel_rfl), of_decide_eq_true (by kernel_rfl)⟩ (by decide) hw
  rw [show (⟨(RT (1/2)).toArray⟩ : ByteArray) = ⟨#[49, 47, 50]⟩ from by kernel_rfl, show TV (abt 2 2 4 0 (1/2)) = #[.string ⟨#[50]⟩, .string ⟨#[45, 49]⟩, .string ⟨#[48]⟩, .string ⟨#[48]⟩, .string ⟨#[48]⟩, .string ⟨#[49, 47, 50]⟩] from by kernel_rfl] at h3
  have H3 := hide h3
  clear h3
  have e1 := fun w => self_r3 ⟨#[57, 56]⟩ ⟨#[50, 48, 49]⟩ ⟨#[49]⟩ (sz (by decide)) (sz (by decide)) (sz (by decide)) w
  have e2 := fun w => self_tor ⟨#[50]⟩ ⟨#[45, 49]⟩ ⟨#[48]⟩ ⟨#[48]⟩ ⟨#[48]⟩ ⟨#[49, 47, 50]⟩ (sz (by decide)) (sz (by decide)) (sz (by decide)) (sz (by decide)) (sz (by decide)) (sz (by decide)) w
  clear sz
  go_enter Tryz.func11, Tryz.ntmps11
  go_wp2_with fail
  refine (H1.out _ (std_next HS.out (allocs_below w [_]))).mono ?_
  rintro e w1 ⟨rfl, hb1⟩
  have B1 := hide ((allocs_below w [_]).trans (hb1.mono (allocs_below w [_]).size))
  clear hb1
  go_wp2_with fail
  refine (H2.out _ (std_next HS.out (B1.out.alloc B1.out.size _))).mono ?_
  rintro e w2 ⟨⟨v, rfl, hsix⟩, hb2⟩
  have P2 := hide (Blk.below (Blk.new w1 23 #[.string ⟨#[57, 56]⟩, .string ⟨#[50, 48, 49]⟩, .string ⟨#[49]⟩]) hb2 (Blk.lt (Blk.new w1 23 #[.string ⟨#[57, 56]⟩, .string ⟨#[50, 48, 49]⟩, .string ⟨#[49]⟩])))
  have B2 := hide ((B1.out.alloc B1.out.size _).trans (hb2.mono (B1.out.alloc B1.out.size _).size))
  have S2 := hide hsix
  clear hsix hb2
  go_wp2_with fail
  refine (H3.out _ (std_next HS.out B2.out)).mono ?_
  rintro e w3 ⟨rfl, hb3⟩
  have hP := (Blk.below P2.out hb3 (Blk.lt P2.out)).alloc (.cells #[.string ⟨#[50]⟩, .string ⟨#[45, 49]⟩, .string ⟨#[48]⟩, .string ⟨#[48]⟩, .string ⟨#[48]⟩, .string ⟨#[49, 47, 50]⟩] 25)
  have hA := Blk.new w3 25 #[.string ⟨#[50]⟩, .string ⟨#[45, 49]⟩, .string ⟨#[48]⟩, .string ⟨#[48]⟩, .string ⟨#[48]⟩, .string ⟨#[49, 47, 50]⟩]
  have hS := (S2.out.below hb3).below (allocs_below w3 [.cells #[.string ⟨#[50]⟩, .string ⟨#[45, 49]⟩, .string ⟨#[48]⟩, .string ⟨#[48]⟩, .string ⟨#[48]⟩, .string ⟨#[49, 47, 50]⟩] 25])
  have hB3 := B2.out.trans (hb3.mono B2.out.size)
  have hB := hB3.alloc hB3.size (.cells #[.string ⟨#[50]⟩, .string ⟨#[45, 49]⟩, .string ⟨#[48]⟩, .string ⟨#[48]⟩, .string ⟨#[48]⟩, .string ⟨#[49, 47, 50]⟩] 25)
  clear hb3 hB3
  go_upto_region 5 with (fail)
  unfold allocs at hS
  simp only [List.foldl_cons, List.foldl_nil] at hS
  generalize (w3.alloc (.cells #[.string ⟨#[50]⟩, .string ⟨#[45, 49]⟩, .string ⟨#[48]⟩, .string ⟨#[48]⟩, .string ⟨#[48]⟩, .string ⟨#[49, 47, 50]⟩] 25)) = w4 at *
  have P4 := hide hP
  have A4 := hide hA
  have S4 := hide hS
  have B4 := hide hB
  clear hP hA hS hB
  have p0 : w4.cell? ⟨w1.heap.size, 0, none⟩ = some (.string ⟨#[57, 56]⟩) := (Blk.cell P4.out 0).trans rfl
  have p1 : w4.cell? ⟨w1.heap.size, 1, none⟩ = some (.string ⟨#[50, 48, 49]⟩) := (Blk.cell P4.out 1).trans rfl
  have p2 : w4.cell? ⟨w1.heap.size, 2, none⟩ = some (.string ⟨#[49]⟩) := (Blk.cell P4.out 2).trans rfl
  go_wp2_with fail
  have hN := hide (Blk.new w4 22 #[.string ⟨#[48]⟩, .string ⟨#[49]⟩, .string ⟨#[48]⟩, .string ⟨#[45, 53]⟩, .string ⟨#[48]⟩, .string ⟨#[49, 48, 48]⟩])
  refine (equal_six _ _ _ (frmT 1 100 200 5) (S4.out.below (allocs_below w4 [_])) ⟨_, _, rfl, fun p hp => ?sx⟩).mono ?_
  case sx =>
    match p, hp with
    | 0, _ => exact (Blk.cell hN.out 0).trans (congrArg (fun b => some (Value.string b)) (show ⟨#[48]⟩ = frmT 1 100 200 5 0 from by kernel_rfl))
    | 1, _ => exact (Blk.cell hN.out 1).trans (congrArg (fun b => some (Value.string b)) (show ⟨#[49]⟩ = frmT 1 100 200 5 1 from by kernel_rfl))
    | 2, _ => exact (Blk.cell hN.out 2).trans (congrArg (fun b => some (Value.string b)) (show ⟨#[48]⟩ = frmT 1 100 200 5 2 from by kernel_rfl))
    | 3, _ => exact (Blk.cell hN.out 3).trans (congrArg (fun b => some (Value.string b)) (show ⟨#[45, 53]⟩ = frmT 1 100 200 5 3 from by kernel_rfl))
    | 4, _ => exact (Blk.cell hN.out 4).trans (congrArg (fun b => some (Value.string b)) (show ⟨#[48]⟩ = frmT 1 100 200 5 4 from by kernel_rfl))
    | 5, _ => exact (Blk.cell hN.out 5).trans (congrArg (fun b => some (Value.string b)) (show ⟨#[49, 48, 48]⟩ = frmT 1 100 200 5 5 from by kernel_rfl))
  rintro e w5 ⟨rfl, hb5⟩
  have B5 := hide ((B4.out.alloc B4.out.size _).trans (hb5.mono (B4.out.alloc B4.out.size _).size))
  have hA5 := Blk.below (A4.out.alloc _) hb5 (Blk.lt (A4.out.alloc _))
  have a0 : w5.cell? ⟨w3.heap.size, 0, none⟩ = some (.string ⟨#[50]⟩) := (Blk.cell hA5 0).trans rfl
  have a1 : w5.cell? ⟨w3.heap.size, 1, none⟩ = some (.string ⟨#[45, 49]⟩) := (Blk.cell hA5 1).trans rfl
  have a2 : w5.cell? ⟨w3.heap.size, 2, none⟩ = some (.string ⟨#[48]⟩) := (Blk.cell hA5 2).trans rfl
  have a3 : w5.cell? ⟨w3.heap.size, 3, none⟩ = some (.string ⟨#[48]⟩) := (Blk.cell hA5 3).trans rfl
  have a4 : w5.cell? ⟨w3.heap.size, 4, none⟩ = some (.string ⟨#[48]⟩) := (Blk.cell hA5 4).trans rfl
  have a5 : w5.cell? ⟨w3.heap.size, 5, none⟩ = some (.string ⟨#[49, 47, 50]⟩) := (Blk.cell hA5 5).trans rfl
  clear hA5 hb5 p0 p1 p2 hN
  go_wp2_with fail
  go_ret
  exact ⟨rfl, B5.out⟩
end Go.Proofs.YtdkilkliccljeaaGreatDoor
