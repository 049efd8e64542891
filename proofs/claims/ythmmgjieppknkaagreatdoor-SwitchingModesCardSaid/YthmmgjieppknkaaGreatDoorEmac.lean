/- Contracts and plain laws that the statements of this seat share (part Emac). -/
import Derived.Test.YthmmgjieppknkaaGreatDoorEmaa
import Derived.Test.YthmmgjieppknkaaGreatDoorEmab
import Derived.Test.YthmmgjieppknkaaGreatDoorKaa
import Derived.Test.YthmmgjieppknkaaGreatDoorKac
import Derived.Test.YthmmgjieppknkaaGreatDoorKad
import Derived.Test.YthmmgjieppknkaaGreatDoorKag
import Derived.Test.YthmmgjieppknkaaGreatDoorKai
import Derived.Test.YthmmgjieppknkaaGreatDoorKak
import Derived.Test.YthmmgjieppknkaaGreatDoorKal
import Derived.Test.YthmmgjieppknkaaGreatDoorKam
import Derived.Test.YthmmgjieppknkaaGreatDoorKau
namespace Go.Proofs.YthmmgjieppknkaaGreatDoor
open Go.RowKit MLab
set_option maxRecDepth 100000 in
set_option maxHeartbeats 2000000 in
theorem rswck_any (w : World) (S : Nat → Int × Int) :
    Calls Tryz.prog 20 #[schV S] w fun e w' => e = .returned (.int .i64 (ckS S)) ∧ Below w.heap.size w w' := by
  have HBJ := hide (fun j (hj : j < 3) h => ckS_bad (S := S) (j := j) hj h)
  have HOK := hide (fun h => ckS_ok (S := S) h)
  show Calls Tryz.prog 20 #[.agg #[.int .i64 (S 0).1, .int .i64 (S 0).2, .int .i64 (S 1).1, .int .i64 (S 1).2, .int .i64 (S 2).1, .int .i64 (S 2).2]] w _
  have HB := allocs_below w [.cells #[.int .i64 (S 0).1, .int .i64 (S 0).2, .int .i64 (S 1).1, .int .i64 (S 1).2, .int .i64 (S 2).1, .int .i64 (S 2).2] 43]
  have K_p : Blk (allocs w [.cells #[.int .i64 (S 0).1, .int .i64 (S 0).2, .int .i64 (S 1).1, .int .i64 (S 1).2, .int .i64 (S 2).1, .int .i64 (S 2).2] 43]) (w.heap.size + 0) 43 #[.int .i64 (S 0).1, .int .i64 (S 0).2, .int .i64 (S 1).1, .int .i64 (S 1).2, .int .i64 (S 2).1, .int .i64 (S 2).2] := allocs_at w [.cells #[.int .i64 (S 0).1, .int .i64 (S 0).2, .int .i64 (S 1).1, .int .i64 (S 1).2, .int .i64 (S 2).1, .int .i64 (S 2).2] 43] 0 rfl
  unfold allocs at HB K_p
  simp only [List.foldl_cons, List.foldl_nil] at HB K_p
  rw [Nat.add_zero] at K_p
  go_enter Tryz.func20, Tryz.ntmps20
  go_upto_region 1 with (fail)
  generalize (w.alloc (.cells #[.int .i64 (S 0).1, .int .i64 (S 0).2, .int .i64 (S 1).1, .int .i64 (S 1).2, .int .i64 (S 2).1, .int .i64 (S 2).2] 43)) = w0 at *
  replace K_p := hide K_p
  replace HB := hide HB
  have hat : ∀ j, j < 3 → w0.cell? ⟨w.heap.size, j * 2, none⟩ = some (.int .i64 (S j).1) ∧ w0.cell? ⟨w.heap.size, j * 2 + 1, none⟩ = some (.int .i64 (S j).2) := fun j hj => by
    rcases (by omega : j = 0 ∨ j = 1 ∨ j = 2) with rfl | rfl | rfl
    · exact ⟨(Blk.cell K_p.out 0).trans rfl, (Blk.cell K_p.out 1).trans rfl⟩
    · exact ⟨(Blk.cell K_p.out 2).trans rfl, (Blk.cell K_p.out 3).trans rfl⟩
    · exact ⟨(Blk.cell K_p.out 4).trans rfl, (Blk.cell K_p.out 5).trans rfl⟩
  have HAT := hide hat
  clear hat
  go_wp2_with fail
  go_loopg [3] 3 (fun z iv wr => ∃ j : Nat, iv = .int .i64 (j : Int) ∧ z + j = 3 ∧ Below w0.heap.size w0 wr ∧ ∀ i, i < j → 1 ≤ (S i).1 ∧ (S i).1 ≤ 1048576 ∧ 0 ≤ (S i).2 ∧ (S i).2 < (S i).1)
  case atStart => exact ⟨0, rfl, rfl, Below.refl _ _, fun i hi => absurd hi (by omega)⟩
  case round =>
    obtain ⟨j, rfl, hq, hb, hr⟩ := hrel
    have HQ := hide hq
    have HBL := hide hb
    have HR := hide hr
    have hj : j ≤ 3 := by omega
    have HX := hide (HB.out.trans (hb.mono HB.out.size))
    clear hq hb hr
    by_cases hlt : j < 3
    · have hji : (j : Int) < 3 := by omega
      have hj0 : (0 : Int) ≤ (j : Int) := by omega
      have HBAD := hide (fun h => HBJ.out j hlt h)
      obtain ⟨x1, x2⟩ := HAT.out j hlt
      obtain ⟨p, hp⟩ : ∃ p, S j = p := ⟨_, rfl⟩
      obtain ⟨s, a⟩ := p
      rw [hp] at x1 x2 HBAD
      simp only at x1 x2
      have HSJ := hide hp
      clear hp
      have hbs := HBL.out.size
      have hbx := HX.out.size
      have y1 := (bcell HBL.out _ _ (block_lt_of_cell x1)).trans x1
      have y2 := (bcell HBL.out _ _ (block_lt_of_cell x2)).trans x2
      clear x1 x2
      by_cases c1 : s < 1
      · have hz := HBAD.out (by omega)
        have HZ := hide hz
        clear hz
        go_wp2_with fail
        go_ret
        rw [HZ.out]
        exact ⟨rfl, HX.out.alloc hbx _⟩
      · by_cases c2 : 1048576 < s
        · have hz := HBAD.out (by omega)
          have HZ := hide hz
          clear hz
          go_wp2_with fail
          go_ret
          rw [HZ.out]
          exact ⟨rfl, HX.out.alloc hbx _⟩
        · by_cases c3 : a < 0
          · have hz := HBAD.out (by omega)
            have HZ := hide hz
            clear hz
            go_wp2_with fail
            go_ret
            rw [HZ.out]
            exact ⟨rfl, HX.out.alloc hbx _⟩
          · by_cases c4 : s ≤ a
            · have hz := HBAD.out (by omega)
              have HZ := hide hz
              clear hz
              go_wp2_with fail
              go_ret
              rw [HZ.out]
              exact ⟨rfl, HX.out.alloc hbx _⟩
            · go_wp2_with fail
              go_roundg (gk - 1)
              case measure => have := HQ.out; omega
              case rel => exact ⟨j + 1, by go_num, by have := HQ.out; omega, HBL.out.alloc hbs _, fun i hi => by
  rcases (by omega : i < j ∨ i = j) with h | h
  · exact HR.out i h
  · subst h; rw [HSJ.out]; exact ⟨by show 1 ≤ s; omega, by show s ≤ 1048576; omega, by show 0 ≤ a; omega, by show a < s; omega⟩⟩
    · have hji : ¬ (j : Int) < 3 := by omega
      have h3 : j = 3 := by omega
      subst h3
      go_wp2_with fail
      go_ret
      rw [HOK.out HR.out]
      exact ⟨rfl, HX.out⟩
end Go.Proofs.YthmmgjieppknkaaGreatDoor
