/- Contracts and plain laws that the statements of this seat share (part Tcae). -/
import Derived.Test.YthmmgjieppknkaaGreatDoorTcab
import Derived.Test.YthmmgjieppknkaaGreatDoorTcac
import Derived.Test.YthmmgjieppknkaaGreatDoorTcad
import Derived.Test.YthmmgjieppknkaaGreatDoorKtaa
import Derived.Test.YthmmgjieppknkaaGreatDoorKtab
import Derived.Test.YthmmgjieppknkaaGreatDoorKtac
import Derived.Test.YthmmgjieppknkaaGreatDoorKtad
import Derived.Test.YthmmgjieppknkaaGreatDoorKtag
import Derived.Test.YthmmgjieppknkaaGreatDoorKtah
import Derived.Test.YthmmgjieppknkaaGreatDoorKtai
import Derived.Test.YthmmgjieppknkaaGreatDoorKtak
import Derived.Test.YthmmgjieppknkaaGreatDoorKtal
import Derived.Test.YthmmgjieppknkaaGreatDoorKtam
import Derived.Test.YthmmgjieppknkaaGreatDoorKtas
import Derived.Test.YthmmgjieppknkaaGreatDoorKtat
import Derived.Test.YthmmgjieppknkaaGreatDoorKtau
namespace Go.Proofs.YthmmgjieppknkaaGreatDoor
open Go.RowKit MLab
def rstE (mode run : Int) (l : List Bool) (rej : Int) : Int := if rightI mode run l rej ≠ 0 then rightI mode run l rej else if mode ≠ 3 then 14 else 0
def nextE (S : Nat → Int × Int) (mode run : Int) (l : List Bool) (rej found : Int) : Int :=
  if ckS S ≠ 0 then ckS S else if rightI mode run l rej ≠ 0 then rightI mode run l rej else if mode = 3 then 14 else if found < 0 ∨ (S mode.toNat).1 < found then 2 else 0
theorem SlL.shape3 {w : World} {v : Value} {L : List Value} (h : SlL w v L) : ∃ A n c, v = .slice A n c := by
  obtain ⟨A, c, hv, _⟩ := h
  exact ⟨_, _, _, hv⟩
theorem zs_nobool (i : Nat) (b : Bool) : (#[Value.int .i64 0, .int .i64 0, .slice none 0 0, .int .i64 0] : Array Value)[i]? ≠ some (.bool b) := by
  match i with
  | 0 => simp
  | 1 => simp
  | 2 => simp
  | 3 => simp
  | n + 4 => simp
theorem okP_of_right {x : Sw} (h : RightS x) : OkP (ptOf x) := by
  rcases right_cases h with ⟨run, l, rfl, h1, h2, h3⟩ | ⟨run, rej, rfl, h1, h2⟩ | rfl | rfl
  · have hb := bitsL_le l
    have hp : 2 ^ (l.length + 1) ≤ 2 ^ 5 := Nat.pow_le_pow_right (by omega) (by omega)
    have hq := bitsL_pos l
    exact ⟨by show 0 ≤ 3; omega, by show run ≤ 9; omega, hq, by show bitsL l ≤ 31; omega, by show 0 ≤ 4; omega, fun e => absurd (show 0 = 1 from e) (by omega), fun e => absurd (show 0 = 3 from e) (by omega)⟩
  · exact ⟨by show 1 ≤ 3; omega, by show run ≤ 9; omega, by show 1 ≤ 1; omega, by show 1 ≤ 31; omega, by show rej ≤ 4; omega, fun _ => by show run ≤ 4; omega, fun e => absurd (show 1 = 3 from e) (by omega)⟩
  · exact okP_begun (m := 2) (by omega)
  · exact okP_begun (m := 3) (by omega)
set_option maxRecDepth 100000 in
set_option maxHeartbeats 2000000 in
theorem swrst_bad (w : World) (mode run rej z : Int) (v : Value) (l : List Bool) (hv : SlL w v (bcl l)) (hl : l.length ≤ 1000000) (hz : z ≠ 0) (h : rstE mode run l rej = z) :
    Calls Tryz.prog 16 #[.agg #[.int .i64 mode, .int .i64 run, v, .int .i64 rej]] w fun e w' => e = .returned (.tuple #[.agg #[.int .i64 0, .int .i64 0, .slice none 0 0, .int .i64 0], .int .i64 z]) ∧ Below w.heap.size w w' := by
  have HV := hide hv
  have HR := hide (fun (W : World) (h : SlL W v (bcl l)) => swright_any W mode run rej v l h hl)
  unfold rstE at h
  by_cases h1 : rightI mode run l rej ≠ 0
  · rw [if_pos h1] at h
    rw [h] at HR
    have hzi : (z == 0) = false := by simpa using hz
    have HZ := hide hz
    clear hz
    clear h h1
    have HB := allocs_below w [.cells #[.int .i64 mode, .int .i64 run, v, .int .i64 rej] 29, .cells #[.int .i64 0, .int .i64 0, .slice none 0 0, .int .i64 0] 29]
    have K_x : Blk (allocs w [.cells #[.int .i64 mode, .int .i64 run, v, .int .i64 rej] 29, .cells #[.int .i64 0, .int .i64 0, .slice none 0 0, .int .i64 0] 29]) (w.heap.size + 0) 29 #[.int .i64 mode, .int .i64 run, v, .int .i64 rej] := allocs_at w [.cells #[.int .i64 mode, .int .i64 run, v, .int .i64 rej] 29, .cells #[.int .i64 0, .int .i64 0, .slice none 0 0, .int .i64 0] 29] 0 rfl
    have K_r : Blk (allocs w [.cells #[.int .i64 mode, .int .i64 run, v, .int .i64 rej] 29, .cells #[.int .i64 0, .int .i64 0, .slice none 0 0, .int .i64 0] 29]) (w.heap.size + 1) 29 #[.int .i64 0, .int .i64 0, .slice none 0 0, .int .i64 0] := allocs_at w [.cells #[.int .i64 mode, .int .i64 run, v, .int .i64 rej] 29, .cells #[.int .i64 0, .int .i64 0, .slice none 0 0, .int .i64 0] 29] 1 rfl
    unfold allocs at HB K_x K_r
    simp only [List.foldl_cons, List.foldl_nil] at HB K_x K_r
    rw [Nat.add_zero] at K_x
    go_enter Tryz.func16, Tryz.ntmps16
    go_upto_region 1 with (fail)
    generalize ((w.alloc (.cells #[.int .i64 mode, .int .i64 run, v, .int .i64 rej] 29)).alloc (.cells #[.int .i64 0, .int .i64 0, .slice none 0 0, .int .i64 0] 29)) = w0 at *
    replace K_x := hide K_x
    replace K_r := hide K_r
    replace HB := hide HB
    have x0 := (Blk.cell K_x.out 0).trans (rfl : _ = some (Value.int .i64 mode))
    have x1 := (Blk.cell K_x.out 1).trans (rfl : _ = some (Value.int .i64 run))
    have x2 := (Blk.cell K_x.out 2).trans (rfl : _ = some (v))
    have x3 := (Blk.cell K_x.out 3).trans (rfl : _ = some (Value.int .i64 rej))
    go_wp2_with fail
    refine (HR.out _ (HV.out.below HB.out)).mono ?_
    rintro e w1 ⟨rfl, hb⟩
    clear x0 x1 x2 x3
    replace K_x := hide (Blk.below K_x.out hb (Blk.lt K_x.out))
    replace K_r := hide (Blk.below K_r.out hb (Blk.lt K_r.out))
    replace HB := hide (HB.out.trans (hb.mono HB.out.size))
    clear hb
    have r0 := (Blk.cell K_r.out 0).trans (rfl : _ = some (Value.int .i64 0))
    have rf0 := Blk.frozen K_r.out 0
    have r1 := (Blk.cell K_r.out 1).trans (rfl : _ = some (Value.int .i64 0))
    have rf1 := Blk.frozen K_r.out 1
    have r2 := (Blk.cell K_r.out 2).trans (rfl : _ = some (Value.slice none 0 0))
    have rf2 := Blk.frozen K_r.out 2
    have r3 := (Blk.cell K_r.out 3).trans (rfl : _ = some (Value.int .i64 0))
    have rf3 := Blk.frozen K_r.out 3
    go_wp2_with fail
    have rc0 := (Blk.cell ((((K_r.out.set_ 0 (.int .i64 0)).set_ 1 (.int .i64 0)).set_ 2 (.slice none 0 0)).set_ 3 (.int .i64 0)) 0).trans (rfl : _ = some (Value.int .i64 0))
    have rc1 := (Blk.cell ((((K_r.out.set_ 0 (.int .i64 0)).set_ 1 (.int .i64 0)).set_ 2 (.slice none 0 0)).set_ 3 (.int .i64 0)) 1).trans (rfl : _ = some (Value.int .i64 0))
    have rc2 := (Blk.cell ((((K_r.out.set_ 0 (.int .i64 0)).set_ 1 (.int .i64 0)).set_ 2 (.slice none 0 0)).set_ 3 (.int .i64 0)) 2).trans (rfl : _ = some (Value.slice none 0 0))
    have rc3 := (Blk.cell ((((K_r.out.set_ 0 (.int .i64 0)).set_ 1 (.int .i64 0)).set_ 2 (.slice none 0 0)).set_ 3 (.int .i64 0)) 3).trans (rfl : _ = some (Value.int .i64 0))
    exact bodyPost_ret (v := .tuple #[.agg #[.int .i64 0, .int .i64 0, .slice none 0 0, .int .i64 0], .int .i64 z]) (by simp [results, Tryz.results16, go_sem, rc0, rc1, rc2, rc3]) rfl ⟨rfl, ((((HB.out.setCell (p := ⟨(w.heap.size + 1), 0, none⟩) (by show w.heap.size ≤ (w.heap.size + 1); omega) (.int .i64 0)).setCell (p := ⟨(w.heap.size + 1), 1, none⟩) (by show w.heap.size ≤ (w.heap.size + 1); omega) (.int .i64 0)).setCell (p := ⟨(w.heap.size + 1), 2, none⟩) (by show w.heap.size ≤ (w.heap.size + 1); omega) (.slice none 0 0)).setCell (p := ⟨(w.heap.size + 1), 3, none⟩) (by show w.heap.size ≤ (w.heap.size + 1); omega) (.int .i64 0))⟩
  · by_cases h2 : mode ≠ 3
    · rw [if_neg h1] at h
      rw [if_pos h2] at h
      rw [Classical.not_not.1 h1] at HR
      subst h
      have hm3 : (mode == 3) = false := by simpa using h2
      clear h1
      have HB := allocs_below w [.cells #[.int .i64 mode, .int .i64 run, v, .int .i64 rej] 29, .cells #[.int .i64 0, .int .i64 0, .slice none 0 0, .int .i64 0] 29]
      have K_x : Blk (allocs w [.cells #[.int .i64 mode, .int .i64 run, v, .int .i64 rej] 29, .cells #[.int .i64 0, .int .i64 0, .slice none 0 0, .int .i64 0] 29]) (w.heap.size + 0) 29 #[.int .i64 mode, .int .i64 run, v, .int .i64 rej] := allocs_at w [.cells #[.int .i64 mode, .int .i64 run, v, .int .i64 rej] 29, .cells #[.int .i64 0, .int .i64 0, .slice none 0 0, .int .i64 0] 29] 0 rfl
      have K_r : Blk (allocs w [.cells #[.int .i64 mode, .int .i64 run, v, .int .i64 rej] 29, .cells #[.int .i64 0, .int .i64 0, .slice none 0 0, .int .i64 0] 29]) (w.heap.size + 1) 29 #[.int .i64 0, .int .i64 0, .slice none 0 0, .int .i64 0] := allocs_at w [.cells #[.int .i64 mode, .int .i64 run, v, .int .i64 rej] 29, .cells #[.int .i64 0, .int .i64 0, .slice none 0 0, .int .i64 0] 29] 1 rfl
      unfold allocs at HB K_x K_r
      simp only [List.foldl_cons, List.foldl_nil] at HB K_x K_r
      rw [Nat.add_zero] at K_x
      go_enter Tryz.func16, Tryz.ntmps16
      go_upto_region 1 with (fail)
      generalize ((w.alloc (.cells #[.int .i64 mode, .int .i64 run, v, .int .i64 rej] 29)).alloc (.cells #[.int .i64 0, .int .i64 0, .slice none 0 0, .int .i64 0] 29)) = w0 at *
      replace K_x := hide K_x
      replace K_r := hide K_r
      replace HB := hide HB
      have x0 := (Blk.cell K_x.out 0).trans (rfl : _ = some (Value.int .i64 mode))
      have x1 := (Blk.cell K_x.out 1).trans (rfl : _ = some (Value.int .i64 run))
      have x2 := (Blk.cell K_x.out 2).trans (rfl : _ = some (v))
      have x3 := (Blk.cell K_x.out 3).trans (rfl : _ = some (Value.int .i64 rej))
      go_wp2_with fail
      refine (HR.out _ (HV.out.below HB.out)).mono ?_
      rintro e w1 ⟨rfl, hb⟩
      clear x0 x1 x2 x3
      replace K_x := hide (Blk.below K_x.out hb (Blk.lt K_x.out))
      replace K_r := hide (Blk.below K_r.out hb (Blk.lt K_r.out))
      replace HB := hide (HB.out.trans (hb.mono HB.out.size))
      clear hb
      have x0 := (Blk.cell K_x.out 0).trans (rfl : _ = some (Value.int .i64 mode))
      have x1 := (Blk.cell K_x.out 1).trans (rfl : _ = some (Value.int .i64 run))
      have x2 := (Blk.cell K_x.out 2).trans (rfl : _ = some (v))
      have x3 := (Blk.cell K_x.out 3).trans (rfl : _ = some (Value.int .i64 rej))
      have r0 := (Blk.cell K_r.out 0).trans (rfl : _ = some (Value.int .i64 0))
      have rf0 := Blk.frozen K_r.out 0
      have r1 := (Blk.cell K_r.out 1).trans (rfl : _ = some (Value.int .i64 0))
      have rf1 := Blk.frozen K_r.out 1
      have r2 := (Blk.cell K_r.out 2).trans (rfl : _ = some (Value.slice none 0 0))
      have rf2 := Blk.frozen K_r.out 2
      have r3 := (Blk.cell K_r.out 3).trans (rfl : _ = some (Value.int .i64 0))
      have rf3 := Blk.frozen K_r.out 3
      go_wp2_with fail
      have rc0 := (Blk.cell ((((K_r.out.set_ 0 (.int .i64 0)).set_ 1 (.int .i64 0)).set_ 2 (.slice none 0 0)).set_ 3 (.int .i64 0)) 0).trans (rfl : _ = some (Value.int .i64 0))
      have rc1 := (Blk.cell ((((K_r.out.set_ 0 (.int .i64 0)).set_ 1 (.int .i64 0)).set_ 2 (.slice none 0 0)).set_ 3 (.int .i64 0)) 1).trans (rfl : _ = some (Value.int .i64 0))
      have rc2 := (Blk.cell ((((K_r.out.set_ 0 (.int .i64 0)).set_ 1 (.int .i64 0)).set_ 2 (.slice none 0 0)).set_ 3 (.int .i64 0)) 2).trans (rfl : _ = some (Value.slice none 0 0))
      have rc3 := (Blk.cell ((((K_r.out.set_ 0 (.int .i64 0)).set_ 1 (.int .i64 0)).set_ 2 (.slice none 0 0)).set_ 3 (.int .i64 0)) 3).trans (rfl : _ = some (Value.int .i64 0))
      exact bodyPost_ret (v := .tuple #[.agg #[.int .i64 0, .int .i64 0, .slice none 0 0, .int .i64 0], .int .i64 14]) (by simp [results, Tryz.results16, go_sem, rc0, rc1, rc2, rc3]) rfl ⟨rfl, ((((HB.out.setCell (p := ⟨(w.heap.size + 1), 0, none⟩) (by show w.heap.size ≤ (w.heap.size + 1); omega) (.int .i64 0)).setCell (p := ⟨(w.heap.size + 1), 1, none⟩) (by show w.heap.size ≤ (w.heap.size + 1); omega) (.int .i64 0)).setCell (p := ⟨(w.heap.size + 1), 2, none⟩) (by show w.heap.size ≤ (w.heap.size + 1); omega) (.slice none 0 0)).setCell (p := ⟨(w.heap.size + 1), 3, none⟩) (by show w.heap.size ≤ (w.heap.size + 1); omega) (.int .i64 0))⟩
    · rw [if_neg h1, if_neg h2] at h; exact absurd h.symm hz
set_option maxRecDepth 100000 in
set_option maxHeartbeats 2000000 in
theorem swrst_ok (w : World) (run rej : Int) (v : Value) (l : List Bool) (hv : SlL w v (bcl l)) (hl : l.length ≤ 1000000) (h : rightI 3 run l rej = 0) :
    Calls Tryz.prog 16 #[.agg #[.int .i64 3, .int .i64 run, v, .int .i64 rej]] w fun e w' => e = .returned (.tuple #[.agg #[.int .i64 1, .int .i64 0, .slice none 0 0, .int .i64 0], .int .i64 0]) ∧ Below w.heap.size w w' := by
  have HV := hide hv
  have HR := hide (fun (W : World) (h : SlL W v (bcl l)) => swright_any W 3 run rej v l h hl)
  rw [h] at HR
  clear h
  have HB := allocs_below w [.cells #[.int .i64 3, .int .i64 run, v, .int .i64 rej] 29, .cells #[.int .i64 0, .int .i64 0, .slice none 0 0, .int .i64 0] 29]
  have K_x : Blk (allocs w [.cells #[.int .i64 3, .int .i64 run, v, .int .i64 rej] 29, .cells #[.int .i64 0, .int .i64 0, .slice none 0 0, .int .i64 0] 29]) (w.heap.size + 0) 29 #[.int .i64 3, .int .i64 run, v, .int .i64 rej] := allocs_at w [.cells #[.int .i64 3, .int .i64 run, v, .int .i64 rej] 29, .cells #[.int .i64 0, .int .i64 0, .slice none 0 0, .int .i64 0] 29] 0 rfl
  have K_r : Blk (allocs w [.cells #[.int .i64 3, .int .i64 run, v, .int .i64 rej] 29, .cells #[.int .i64 0, .int .i64 0, .slice none 0 0, .int .i64 0] 29]) (w.heap.size + 1) 29 #[.int .i64 0, .int .i64 0, .slice none 0 0, .int .i64 0] := allocs_at w [.cells #[.int .i64 3, .int .i64 run, v, .int .i64 rej] 29, .cells #[.int .i64 0, .int .i64 0, .slice none 0 0, .int .i64 0] 29] 1 rfl
  unfold allocs at HB K_x K_r
  simp only [List.foldl_cons, List.foldl_nil] at HB K_x K_r
  rw [Nat.add_zero] at K_x
  go_enter Tryz.func16, Tryz.ntmps16
  go_upto_region 1 with (fail)
  generalize ((w.alloc (.cells #[.int .i64 3, .int .i64 run, v, .int .i64 rej] 29)).alloc (.cells #[.int .i64 0, .int .i64 0, .slice none 0 0, .int .i64 0] 29)) = w0 at *
  replace K_x := hide K_x
  replace K_r := hide K_r
  replace HB := hide HB
  have x0 := (Blk.cell K_x.out 0).trans (rfl : _ = some (Value.int .i64 3))
  have x1 := (Blk.cell K_x.out 1).trans (rfl : _ = some (Value.int .i64 run))
  have x2 := (Blk.cell K_x.out 2).trans (rfl : _ = some (v))
  have x3 := (Blk.cell K_x.out 3).trans (rfl : _ = some (Value.int .i64 rej))
  go_wp2_with fail
  refine (HR.out _ (HV.out.below HB.out)).mono ?_
  rintro e w1 ⟨rfl, hb⟩
  clear x0 x1 x2 x3
  replace K_x := hide (Blk.below K_x.out hb (Blk.lt K_x.out))
  replace K_r := hide (Blk.below K_r.out hb (Blk.lt K_r.out))
  replace HB := hide (HB.out.trans (hb.mono HB.out.size))
  clear hb
  have x0 := (Blk.cell K_x.out 0).trans (rfl : _ = some (Value.int .i64 3))
  have x1 := (Blk.cell K_x.out 1).trans (rfl : _ = some (Value.int .i64 run))
  have x2 := (Blk.cell K_x.out 2).trans (rfl : _ = some (v))
  have x3 := (Blk.cell K_x.out 3).trans (rfl : _ = some (Value.int .i64 rej))
  have r0 := (Blk.cell K_r.out 0).trans (rfl : _ = some (Value.int .i64 0))
  have rf0 := Blk.frozen K_r.out 0
  have r1 := (Blk.cell K_r.out 1).trans (rfl : _ = some (Value.int .i64 0))
  have rf1 := Blk.frozen K_r.out 1
  have r2 := (Blk.cell K_r.out 2).trans (rfl : _ = some (Value.slice none 0 0))
  have rf2 := Blk.frozen K_r.out 2
  have r3 := (Blk.cell K_r.out 3).trans (rfl : _ = some (Value.int .i64 0))
  have rf3 := Blk.frozen K_r.out 3
  go_wp2_with fail
  have rc0 := (Blk.cell ((((K_r.out.set_ 0 (.int .i64 1)).set_ 1 (.int .i64 0)).set_ 2 (.slice none 0 0)).set_ 3 (.int .i64 0)) 0).trans (rfl : _ = some (Value.int .i64 1))
  have rc1 := (Blk.cell ((((K_r.out.set_ 0 (.int .i64 1)).set_ 1 (.int .i64 0)).set_ 2 (.slice none 0 0)).set_ 3 (.int .i64 0)) 1).trans (rfl : _ = some (Value.int .i64 0))
  have rc2 := (Blk.cell ((((K_r.out.set_ 0 (.int .i64 1)).set_ 1 (.int .i64 0)).set_ 2 (.slice none 0 0)).set_ 3 (.int .i64 0)) 2).trans (rfl : _ = some (Value.slice none 0 0))
  have rc3 := (Blk.cell ((((K_r.out.set_ 0 (.int .i64 1)).set_ 1 (.int .i64 0)).set_ 2 (.slice none 0 0)).set_ 3 (.int .i64 0)) 3).trans (rfl : _ = some (Value.int .i64 0))
  exact bodyPost_ret (v := .tuple #[.agg #[.int .i64 1, .int .i64 0, .slice none 0 0, .int .i64 0], .int .i64 0]) (by simp [results, Tryz.results16, go_sem, rc0, rc1, rc2, rc3]) rfl ⟨rfl, ((((HB.out.setCell (p := ⟨(w.heap.size + 1), 0, none⟩) (by show w.heap.size ≤ (w.heap.size + 1); omega) (.int .i64 1)).setCell (p := ⟨(w.heap.size + 1), 1, none⟩) (by show w.heap.size ≤ (w.heap.size + 1); omega) (.int .i64 0)).setCell (p := ⟨(w.heap.size + 1), 2, none⟩) (by show w.heap.size ≤ (w.heap.size + 1); omega) (.slice none 0 0)).setCell (p := ⟨(w.heap.size + 1), 3, none⟩) (by show w.heap.size ≤ (w.heap.size + 1); omega) (.int .i64 0))⟩
set_option maxRecDepth 100000 in
set_option maxHeartbeats 4000000 in
theorem swnext_bad (w : World) (S : Nat → Int × Int) (mode run rej found z : Int) (v : Value) (l : List Bool) (hv : SlL w v (bcl l)) (hl : l.length ≤ 1000000) (hz : z ≠ 0) (h : nextE S mode run l rej found = z) :
    Calls Tryz.prog 25 #[schV S, .agg #[.int .i64 mode, .int .i64 run, v, .int .i64 rej], .int .i64 found] w fun e w' => e = .returned (.tuple #[.agg #[.int .i64 0, .int .i64 0, .slice none 0 0, .int .i64 0], .bool false, .int .i64 z]) ∧ Below w.heap.size w w' := by
  have HV := hide hv
  have HC := hide (fun (W : World) => swck_any W S)
  have HR := hide (fun (W : World) (h : SlL W v (bcl l)) => swright_any W mode run rej v l h hl)
  unfold nextE at h
  unfold schV at HC ⊢
  by_cases h1 : ckS S ≠ 0
  · rw [if_pos h1] at h
    rw [h] at HC
    have hzi : (z == 0) = false := by simpa using hz
    have HZ := hide hz
    clear hz h h1
    have HB := allocs_below w [.cells #[.int .i64 (S 0).1, .int .i64 (S 0).2, .int .i64 (S 1).1, .int .i64 (S 1).2, .int .i64 (S 2).1, .int .i64 (S 2).2] 26, .cells #[.int .i64 mode, .int .i64 run, v, .int .i64 rej] 29, .cells #[.int .i64 0, .int .i64 0, .slice none 0 0, .int .i64 0] 29]
    have K_s : Blk (allocs w [.cells #[.int .i64 (S 0).1, .int .i64 (S 0).2, .int .i64 (S 1).1, .int .i64 (S 1).2, .int .i64 (S 2).1, .int .i64 (S 2).2] 26, .cells #[.int .i64 mode, .int .i64 run, v, .int .i64 rej] 29, .cells #[.int .i64 0, .int .i64 0, .slice none 0 0, .int .i64 0] 29]) (w.heap.size + 0) 26 #[.int .i64 (S 0).1, .int .i64 (S 0).2, .int .i64 (S 1).1, .int .i64 (S 1).2, .int .i64 (S 2).1, .int .i64 (S 2).2] := allocs_at w [.cells #[.int .i64 (S 0).1, .int .i64 (S 0).2, .int .i64 (S 1).1, .int .i64 (S 1).2, .int .i64 (S 2).1, .int .i64 (S 2).2] 26, .cells #[.int .i64 mode, .int .i64 run, v, .int .i64 rej] 29, .cells #[.int .i64 0, .int .i64 0, .slice none 0 0, .int .i64 0] 29] 0 rfl
    have K_x : Blk (allocs w [.cells #[.int .i64 (S 0).1, .int .i64 (S 0).2, .int .i64 (S 1).1, .int .i64 (S 1).2, .int .i64 (S 2).1, .int .i64 (S 2).2] 26, .cells #[.int .i64 mode, .int .i64 run, v, .int .i64 rej] 29, .cells #[.int .i64 0, .int .i64 0, .slice none 0 0, .int .i64 0] 29]) (w.heap.size + 1) 29 #[.int .i64 mode, .int .i64 run, v, .int .i64 rej] := allocs_at w [.cells #[.int .i64 (S 0).1, .int .i64 (S 0).2, .int .i64 (S 1).1, .int .i64 (S 1).2, .int .i64 (S 2).1, .int .i64 (S 2).2] 26, .cells #[.int .i64 mode, .int .i64 run, v, .int .i64 rej] 29, .cells #[.int .i64 0, .int .i64 0, .slice none 0 0, .int .i64 0] 29] 1 rfl
    have K_r : Blk (allocs w [.cells #[.int .i64 (S 0).1, .int .i64 (S 0).2, .int .i64 (S 1).1, .int .i64 (S 1).2, .int .i64 (S 2).1, .int .i64 (S 2).2] 26, .cells #[.int .i64 mode, .int .i64 run, v, .int .i64 rej] 29, .cells #[.int .i64 0, .int .i64 0, .slice none 0 0, .int .i64 0] 29]) (w.heap.size + 2) 29 #[.int .i64 0, .int .i64 0, .slice none 0 0, .int .i64 0] := allocs_at w [.cells #[.int .i64 (S 0).1, .int .i64 (S 0).2, .int .i64 (S 1).1, .int .i64 (S 1).2, .int .i64 (S 2).1, .int .i64 (S 2).2] 26, .cells #[.int .i64 mode, .int .i64 run, v, .int .i64 rej] 29, .cells #[.int .i64 0, .int .i64 0, .slice none 0 0, .int .i64 0] 29] 2 rfl
    unfold allocs at HB K_s K_x K_r
    simp only [List.foldl_cons, List.foldl_nil] at HB K_s K_x K_r
    rw [Nat.add_zero] at K_s
    go_enter Tryz.func25, Tryz.ntmps25
    go_upto_region 1 with (fail)
    generalize (((w.alloc (.cells #[.int .i64 (S 0).1, .int .i64 (S 0).2, .int .i64 (S 1).1, .int .i64 (S 1).2, .int .i64 (S 2).1, .int .i64 (S 2).2] 26)).alloc (.cells #[.int .i64 mode, .int .i64 run, v, .int .i64 rej] 29)).alloc (.cells #[.int .i64 0, .int .i64 0, .slice none 0 0, .int .i64 0] 29)) = w0 at *
    replace K_s := hide K_s
    replace K_x := hide K_x
    replace K_r := hide K_r
    replace HB := hide HB
    have s0 := (Blk.cell K_s.out 0).trans (rfl : _ = some (Value.int .i64 (S 0).1))
    have s1 := (Blk.cell K_s.out 1).trans (rfl : _ = some (Value.int .i64 (S 0).2))
    have s2 := (Blk.cell K_s.out 2).trans (rfl : _ = some (Value.int .i64 (S 1).1))
    have s3 := (Blk.cell K_s.out 3).trans (rfl : _ = some (Value.int .i64 (S 1).2))
    have s4 := (Blk.cell K_s.out 4).trans (rfl : _ = some (Value.int .i64 (S 2).1))
    have s5 := (Blk.cell K_s.out 5).trans (rfl : _ = some (Value.int .i64 (S 2).2))
    go_wp2_with fail
    refine (HC.out _).mono ?_
    rintro e w1 ⟨rfl, hb⟩
    clear s0 s1 s2 s3 s4 s5
    replace K_s := hide (Blk.below K_s.out hb (Blk.lt K_s.out))
    replace K_x := hide (Blk.below K_x.out hb (Blk.lt K_x.out))
    replace K_r := hide (Blk.below K_r.out hb (Blk.lt K_r.out))
    replace HB := hide (HB.out.trans (hb.mono HB.out.size))
    clear hb
    have r0 := (Blk.cell K_r.out 0).trans (rfl : _ = some (Value.int .i64 0))
    have rf0 := Blk.frozen K_r.out 0
    have r1 := (Blk.cell K_r.out 1).trans (rfl : _ = some (Value.int .i64 0))
    have rf1 := Blk.frozen K_r.out 1
    have r2 := (Blk.cell K_r.out 2).trans (rfl : _ = some (Value.slice none 0 0))
    have rf2 := Blk.frozen K_r.out 2
    have r3 := (Blk.cell K_r.out 3).trans (rfl : _ = some (Value.int .i64 0))
    have rf3 := Blk.frozen K_r.out 3
    go_wp2_with fail
    have rc0 := (Blk.cell ((((K_r.out.set_ 0 (.int .i64 0)).set_ 1 (.int .i64 0)).set_ 2 (.slice none 0 0)).set_ 3 (.int .i64 0)) 0).trans (rfl : _ = some (Value.int .i64 0))
    have rc1 := (Blk.cell ((((K_r.out.set_ 0 (.int .i64 0)).set_ 1 (.int .i64 0)).set_ 2 (.slice none 0 0)).set_ 3 (.int .i64 0)) 1).trans (rfl : _ = some (Value.int .i64 0))
    have rc2 := (Blk.cell ((((K_r.out.set_ 0 (.int .i64 0)).set_ 1 (.int .i64 0)).set_ 2 (.slice none 0 0)).set_ 3 (.int .i64 0)) 2).trans (rfl : _ = some (Value.slice none 0 0))
    have rc3 := (Blk.cell ((((K_r.out.set_ 0 (.int .i64 0)).set_ 1 (.int .i64 0)).set_ 2 (.slice none 0 0)).set_ 3 (.int .i64 0)) 3).trans (rfl : _ = some (Value.int .i64 0))
    exact bodyPost_ret (v := .tuple #[.agg #[.int .i64 0, .int .i64 0, .slice none 0 0, .int .i64 0], .bool false, .int .i64 z]) (by simp [results, Tryz.results25, go_sem, rc0, rc1, rc2, rc3]) rfl ⟨rfl, ((((HB.out.setCell (p := ⟨(w.heap.size + 2), 0, none⟩) (by show w.heap.size ≤ (w.heap.size + 2); omega) (.int .i64 0)).setCell (p := ⟨(w.heap.size + 2), 1, none⟩) (by show w.heap.size ≤ (w.heap.size + 2); omega) (.int .i64 0)).setCell (p := ⟨(w.heap.size + 2), 2, none⟩) (by show w.heap.size ≤ (w.heap.size + 2); omega) (.slice none 0 0)).setCell (p := ⟨(w.heap.size + 2), 3, none⟩) (by show w.heap.size ≤ (w.heap.size + 2); omega) (.int .i64 0))⟩
  · by_cases h2 : rightI mode run l rej ≠ 0
    · rw [if_neg h1] at h
      rw [Classical.not_not.1 h1] at HC
      rw [if_pos h2] at h
      rw [h] at HR
      have hzi : (z == 0) = false := by simpa using hz
      have HZ := hide hz
      clear hz h h1 h2
      have HB := allocs_below w [.cells #[.int .i64 (S 0).1, .int .i64 (S 0).2, .int .i64 (S 1).1, .int .i64 (S 1).2, .int .i64 (S 2).1, .int .i64 (S 2).2] 26, .cells #[.int .i64 mode, .int .i64 run, v, .int .i64 rej] 29, .cells #[.int .i64 0, .int .i64 0, .slice none 0 0, .int .i64 0] 29]
      have K_s : Blk (allocs w [.cells #[.int .i64 (S 0).1, .int .i64 (S 0).2, .int .i64 (S 1).1, .int .i64 (S 1).2, .int .i64 (S 2).1, .int .i64 (S 2).2] 26, .cells #[.int .i64 mode, .int .i64 run, v, .int .i64 rej] 29, .cells #[.int .i64 0, .int .i64 0, .slice none 0 0, .int .i64 0] 29]) (w.heap.size + 0) 26 #[.int .i64 (S 0).1, .int .i64 (S 0).2, .int .i64 (S 1).1, .int .i64 (S 1).2, .int .i64 (S 2).1, .int .i64 (S 2).2] := allocs_at w [.cells #[.int .i64 (S 0).1, .int .i64 (S 0).2, .int .i64 (S 1).1, .int .i64 (S 1).2, .int .i64 (S 2).1, .int .i64 (S 2).2] 26, .cells #[.int .i64 mode, .int .i64 run, v, .int .i64 rej] 29, .cells #[.int .i64 0, .int .i64 0, .slice none 0 0, .int .i64 0] 29] 0 rfl
      have K_x : Blk (allocs w [.cells #[.int .i64 (S 0).1, .int .i64 (S 0).2, .int .i64 (S 1).1, .int .i64 (S 1).2, .int .i64 (S 2).1, .int .i64 (S 2).2] 26, .cells #[.int .i64 mode, .int .i64 run, v, .int .i64 rej] 29, .cells #[.int .i64 0, .int .i64 0, .slice none 0 0, .int .i64 0] 29]) (w.heap.size + 1) 29 #[.int .i64 mode, .int .i64 run, v, .int .i64 rej] := allocs_at w [.cells #[.int .i64 (S 0).1, .int .i64 (S 0).2, .int .i64 (S 1).1, .int .i64 (S 1).2, .int .i64 (S 2).1, .int .i64 (S 2).2] 26, .cells #[.int .i64 mode, .int .i64 run, v, .int .i64 rej] 29, .cells #[.int .i64 0, .int .i64 0, .slice none 0 0, .int .i64 0] 29] 1 rfl
      have K_r : Blk (allocs w [.cells #[.int .i64 (S 0).1, .int .i64 (S 0).2, .int .i64 (S 1).1, .int .i64 (S 1).2, .int .i64 (S 2).1, .int .i64 (S 2).2] 26, .cells #[.int .i64 mode, .int .i64 run, v, .int .i64 rej] 29, .cells #[.int .i64 0, .int .i64 0, .slice none 0 0, .int .i64 0] 29]) (w.heap.size + 2) 29 #[.int .i64 0, .int .i64 0, .slice none 0 0, .int .i64 0] := allocs_at w [.cells #[.int .i64 (S 0).1, .int .i64 (S 0).2, .int .i64 (S 1).1, .int .i64 (S 1).2, .int .i64 (S 2).1, .int .i64 (S 2).2] 26, .cells #[.int .i64 mode, .int .i64 run, v, .int .i64 rej] 29, .cells #[.int .i64 0, .int .i64 0, .slice none 0 0, .int .i64 0] 29] 2 rfl
      unfold allocs at HB K_s K_x K_r
      simp only [List.foldl_cons, List.foldl_nil] at HB K_s K_x K_r
      rw [Nat.add_zero] at K_s
      go_enter Tryz.func25, Tryz.ntmps25
      go_upto_region 1 with (fail)
      generalize (((w.alloc (.cells #[.int .i64 (S 0).1, .int .i64 (S 0).2, .int .i64 (S 1).1, .int .i64 (S 1).2, .int .i64 (S 2).1, .int .i64 (S 2).2] 26)).alloc (.cells #[.int .i64 mode, .int .i64 run, v, .int .i64 rej] 29)).alloc (.cells #[.int .i64 0, .int .i64 0, .slice none 0 0, .int .i64 0] 29)) = w0 at *
      replace K_s := hide K_s
      replace K_x := hide K_x
      replace K_r := hide K_r
      replace HB := hide HB
      have s0 := (Blk.cell K_s.out 0).trans (rfl : _ = some (Value.int .i64 (S 0).1))
      have s1 := (Blk.cell K_s.out 1).trans (rfl : _ = some (Value.int .i64 (S 0).2))
      have s2 := (Blk.cell K_s.out 2).trans (rfl : _ = some (Value.int .i64 (S 1).1))
      have s3 := (Blk.cell K_s.out 3).trans (rfl : _ = some (Value.int .i64 (S 1).2))
      have s4 := (Blk.cell K_s.out 4).trans (rfl : _ = some (Value.int .i64 (S 2).1))
      have s5 := (Blk.cell K_s.out 5).trans (rfl : _ = some (Value.int .i64 (S 2).2))
      go_wp2_with fail
      refine (HC.out _).mono ?_
      rintro e w1 ⟨rfl, hb⟩
      clear s0 s1 s2 s3 s4 s5
      replace K_s := hide (Blk.below K_s.out hb (Blk.lt K_s.out))
      replace K_x := hide (Blk.below K_x.out hb (Blk.lt K_x.out))
      replace K_r := hide (Blk.below K_r.out hb (Blk.lt K_r.out))
      replace HB := hide (HB.out.trans (hb.mono HB.out.size))
      clear hb
      have x0 := (Blk.cell K_x.out 0).trans (rfl : _ = some (Value.int .i64 mode))
      have x1 := (Blk.cell K_x.out 1).trans (rfl : _ = some (Value.int .i64 run))
      have x2 := (Blk.cell K_x.out 2).trans (rfl : _ = some (v))
      have x3 := (Blk.cell K_x.out 3).trans (rfl : _ = some (Value.int .i64 rej))
      go_wp2_with fail
      refine (HR.out _ (HV.out.below HB.out)).mono ?_
      rintro e w2 ⟨rfl, hb⟩
      clear x0 x1 x2 x3
      replace K_s := hide (Blk.below K_s.out hb (Blk.lt K_s.out))
      replace K_x := hide (Blk.below K_x.out hb (Blk.lt K_x.out))
      replace K_r := hide (Blk.below K_r.out hb (Blk.lt K_r.out))
      replace HB := hide (HB.out.trans (hb.mono HB.out.size))
      clear hb
      have r0 := (Blk.cell K_r.out 0).trans (rfl : _ = some (Value.int .i64 0))
      have rf0 := Blk.frozen K_r.out 0
      have r1 := (Blk.cell K_r.out 1).trans (rfl : _ = some (Value.int .i64 0))
      have rf1 := Blk.frozen K_r.out 1
      have r2 := (Blk.cell K_r.out 2).trans (rfl : _ = some (Value.slice none 0 0))
      have rf2 := Blk.frozen K_r.out 2
      have r3 := (Blk.cell K_r.out 3).trans (rfl : _ = some (Value.int .i64 0))
      have rf3 := Blk.frozen K_r.out 3
      go_wp2_with fail
      have rc0 := (Blk.cell ((((K_r.out.set_ 0 (.int .i64 0)).set_ 1 (.int .i64 0)).set_ 2 (.slice none 0 0)).set_ 3 (.int .i64 0)) 0).trans (rfl : _ = some (Value.int .i64 0))
      have rc1 := (Blk.cell ((((K_r.out.set_ 0 (.int .i64 0)).set_ 1 (.int .i64 0)).set_ 2 (.slice none 0 0)).set_ 3 (.int .i64 0)) 1).trans (rfl : _ = some (Value.int .i64 0))
      have rc2 := (Blk.cell ((((K_r.out.set_ 0 (.int .i64 0)).set_ 1 (.int .i64 0)).set_ 2 (.slice none 0 0)).set_ 3 (.int .i64 0)) 2).trans (rfl : _ = some (Value.slice none 0 0))
      have rc3 := (Blk.cell ((((K_r.out.set_ 0 (.int .i64 0)).set_ 1 (.int .i64 0)).set_ 2 (.slice none 0 0)).set_ 3 (.int .i64 0)) 3).trans (rfl : _ = some (Value.int .i64 0))
      exact bodyPost_ret (v := .tuple #[.agg #[.int .i64 0, .int .i64 0, .slice none 0 0, .int .i64 0], .bool false, .int .i64 z]) (by simp [results, Tryz.results25, go_sem, rc0, rc1, rc2, rc3]) rfl ⟨rfl, ((((HB.out.setCell (p := ⟨(w.heap.size + 2), 0, none⟩) (by show w.heap.size ≤ (w.heap.size + 2); omega) (.int .i64 0)).setCell (p := ⟨(w.heap.size + 2), 1, none⟩) (by show w.heap.size ≤ (w.heap.size + 2); omega) (.int .i64 0)).setCell (p := ⟨(w.heap.size + 2), 2, none⟩) (by show w.heap.size ≤ (w.heap.size + 2); omega) (.slice none 0 0)).setCell (p := ⟨(w.heap.size + 2), 3, none⟩) (by show w.heap.size ≤ (w.heap.size + 2); omega) (.int .i64 0))⟩
    · by_cases h3 : mode = 3
      · rw [if_neg h1] at h
        rw [Classical.not_not.1 h1] at HC
        rw [if_neg h2] at h
        have h2r := Classical.not_not.1 h2
        rw [h2r] at HR
        rw [if_pos h3] at h
        subst h h3
        clear h1 h2 h2r hz
        have HB := allocs_below w [.cells #[.int .i64 (S 0).1, .int .i64 (S 0).2, .int .i64 (S 1).1, .int .i64 (S 1).2, .int .i64 (S 2).1, .int .i64 (S 2).2] 26, .cells #[.int .i64 3, .int .i64 run, v, .int .i64 rej] 29, .cells #[.int .i64 0, .int .i64 0, .slice none 0 0, .int .i64 0] 29]
        have K_s : Blk (allocs w [.cells #[.int .i64 (S 0).1, .int .i64 (S 0).2, .int .i64 (S 1).1, .int .i64 (S 1).2, .int .i64 (S 2).1, .int .i64 (S 2).2] 26, .cells #[.int .i64 3, .int .i64 run, v, .int .i64 rej] 29, .cells #[.int .i64 0, .int .i64 0, .slice none 0 0, .int .i64 0] 29]) (w.heap.size + 0) 26 #[.int .i64 (S 0).1, .int .i64 (S 0).2, .int .i64 (S 1).1, .int .i64 (S 1).2, .int .i64 (S 2).1, .int .i64 (S 2).2] := allocs_at w [.cells #[.int .i64 (S 0).1, .int .i64 (S 0).2, .int .i64 (S 1).1, .int .i64 (S 1).2, .int .i64 (S 2).1, .int .i64 (S 2).2] 26, .cells #[.int .i64 3, .int .i64 run, v, .int .i64 rej] 29, .cells #[.int .i64 0, .int .i64 0, .slice none 0 0, .int .i64 0] 29] 0 rfl
        have K_x : Blk (allocs w [.cells #[.int .i64 (S 0).1, .int .i64 (S 0).2, .int .i64 (S 1).1, .int .i64 (S 1).2, .int .i64 (S 2).1, .int .i64 (S 2).2] 26, .cells #[.int .i64 3, .int .i64 run, v, .int .i64 rej] 29, .cells #[.int .i64 0, .int .i64 0, .slice none 0 0, .int .i64 0] 29]) (w.heap.size + 1) 29 #[.int .i64 3, .int .i64 run, v, .int .i64 rej] := allocs_at w [.cells #[.int .i64 (S 0).1, .int .i64 (S 0).2, .int .i64 (S 1).1, .int .i64 (S 1).2, .int .i64 (S 2).1, .int .i64 (S 2).2] 26, .cells #[.int .i64 3, .int .i64 run, v, .int .i64 rej] 29, .cells #[.int .i64 0, .int .i64 0, .slice none 0 0, .int .i64 0] 29] 1 rfl
        have K_r : Blk (allocs w [.cells #[.int .i64 (S 0).1, .int .i64 (S 0).2, .int .i64 (S 1).1, .int .i64 (S 1).2, .int .i64 (S 2).1, .int .i64 (S 2).2] 26, .cells #[.int .i64 3, .int .i64 run, v, .int .i64 rej] 29, .cells #[.int .i64 0, .int .i64 0, .slice none 0 0, .int .i64 0] 29]) (w.heap.size + 2) 29 #[.int .i64 0, .int .i64 0, .slice none 0 0, .int .i64 0] := allocs_at w [.cells #[.int .i64 (S 0).1, .int .i64 (S 0).2, .int .i64 (S 1).1, .int .i64 (S 1).2, .int .i64 (S 2).1, .int .i64 (S 2).2] 26, .cells #[.int .i64 3, .int .i64 run, v, .int .i64 rej] 29, .cells #[.int .i64 0, .int .i64 0, .slice none 0 0, .int .i64 0] 29] 2 rfl
        unfold allocs at HB K_s K_x K_r
        simp only [List.foldl_cons, List.foldl_nil] at HB K_s K_x K_r
        rw [Nat.add_zero] at K_s
        go_enter Tryz.func25, Tryz.ntmps25
        go_upto_region 1 with (fail)
        generalize (((w.alloc (.cells #[.int .i64 (S 0).1, .int .i64 (S 0).2, .int .i64 (S 1).1, .int .i64 (S 1).2, .int .i64 (S 2).1, .int .i64 (S 2).2] 26)).alloc (.cells #[.int .i64 3, .int .i64 run, v, .int .i64 rej] 29)).alloc (.cells #[.int .i64 0, .int .i64 0, .slice none 0 0, .int .i64 0] 29)) = w0 at *
        replace K_s := hide K_s
        replace K_x := hide K_x
        replace K_r := hide K_r
        replace HB := hide HB
        have s0 := (Blk.cell K_s.out 0).trans (rfl : _ = some (Value.int .i64 (S 0).1))
        have s1 := (Blk.cell K_s.out 1).trans (rfl : _ = some (Value.int .i64 (S 0).2))
        have s2 := (Blk.cell K_s.out 2).trans (rfl : _ = some (Value.int .i64 (S 1).1))
        have s3 := (Blk.cell K_s.out 3).trans (rfl : _ = some (Value.int .i64 (S 1).2))
        have s4 := (Blk.cell K_s.out 4).trans (rfl : _ = some (Value.int .i64 (S 2).1))
        have s5 := (Blk.cell K_s.out 5).trans (rfl : _ = some (Value.int .i64 (S 2).2))
        go_wp2_with fail
        refine (HC.out _).mono ?_
        rintro e w1 ⟨rfl, hb⟩
        clear s0 s1 s2 s3 s4 s5
        replace K_s := hide (Blk.below K_s.out hb (Blk.lt K_s.out))
        replace K_x := hide (Blk.below K_x.out hb (Blk.lt K_x.out))
        replace K_r := hide (Blk.below K_r.out hb (Blk.lt K_r.out))
        replace HB := hide (HB.out.trans (hb.mono HB.out.size))
        clear hb
        have x0 := (Blk.cell K_x.out 0).trans (rfl : _ = some (Value.int .i64 3))
        have x1 := (Blk.cell K_x.out 1).trans (rfl : _ = some (Value.int .i64 run))
        have x2 := (Blk.cell K_x.out 2).trans (rfl : _ = some (v))
        have x3 := (Blk.cell K_x.out 3).trans (rfl : _ = some (Value.int .i64 rej))
        go_wp2_with fail
        refine (HR.out _ (HV.out.below HB.out)).mono ?_
        rintro e w2 ⟨rfl, hb⟩
        clear x0 x1 x2 x3
        replace K_s := hide (Blk.below K_s.out hb (Blk.lt K_s.out))
        replace K_x := hide (Blk.below K_x.out hb (Blk.lt K_x.out))
        replace K_r := hide (Blk.below K_r.out hb (Blk.lt K_r.out))
        replace HB := hide (HB.out.trans (hb.mono HB.out.size))
        clear hb
        have x0 := (Blk.cell K_x.out 0).trans (rfl : _ = some (Value.int .i64 3))
        have x1 := (Blk.cell K_x.out 1).trans (rfl : _ = some (Value.int .i64 run))
        have x2 := (Blk.cell K_x.out 2).trans (rfl : _ = some (v))
        have x3 := (Blk.cell K_x.out 3).trans (rfl : _ = some (Value.int .i64 rej))
        have r0 := (Blk.cell K_r.out 0).trans (rfl : _ = some (Value.int .i64 0))
        have rf0 := Blk.frozen K_r.out 0
        have r1 := (Blk.cell K_r.out 1).trans (rfl : _ = some (Value.int .i64 0))
        have rf1 := Blk.frozen K_r.out 1
        have r2 := (Blk.cell K_r.out 2).trans (rfl : _ = some (Value.slice none 0 0))
        have rf2 := Blk.frozen K_r.out 2
        have r3 := (Blk.cell K_r.out 3).trans (rfl : _ = some (Value.int .i64 0))
        have rf3 := Blk.frozen K_r.out 3
        go_wp2_with fail
        have rc0 := (Blk.cell ((((K_r.out.set_ 0 (.int .i64 0)).set_ 1 (.int .i64 0)).set_ 2 (.slice none 0 0)).set_ 3 (.int .i64 0)) 0).trans (rfl : _ = some (Value.int .i64 0))
        have rc1 := (Blk.cell ((((K_r.out.set_ 0 (.int .i64 0)).set_ 1 (.int .i64 0)).set_ 2 (.slice none 0 0)).set_ 3 (.int .i64 0)) 1).trans (rfl : _ = some (Value.int .i64 0))
        have rc2 := (Blk.cell ((((K_r.out.set_ 0 (.int .i64 0)).set_ 1 (.int .i64 0)).set_ 2 (.slice none 0 0)).set_ 3 (.int .i64 0)) 2).trans (rfl : _ = some (Value.slice none 0 0))
        have rc3 := (Blk.cell ((((K_r.out.set_ 0 (.int .i64 0)).set_ 1 (.int .i64 0)).set_ 2 (.slice none 0 0)).set_ 3 (.int .i64 0)) 3).trans (rfl : _ = some (Value.int .i64 0))
        exact bodyPost_ret (v := .tuple #[.agg #[.int .i64 0, .int .i64 0, .slice none 0 0, .int .i64 0], .bool false, .int .i64 14]) (by simp [results, Tryz.results25, go_sem, rc0, rc1, rc2, rc3]) rfl ⟨rfl, ((((HB.out.setCell (p := ⟨(w.heap.size + 2), 0, none⟩) (by show w.heap.size ≤ (w.heap.size + 2); omega) (.int .i64 0)).setCell (p := ⟨(w.heap.size + 2), 1, none⟩) (by show w.heap.size ≤ (w.heap.size + 2); omega) (.int .i64 0)).setCell (p := ⟨(w.heap.size + 2), 2, none⟩) (by show w.heap.size ≤ (w.heap.size + 2); omega) (.slice none 0 0)).setCell (p := ⟨(w.heap.size + 2), 3, none⟩) (by show w.heap.size ≤ (w.heap.size + 2); omega) (.int .i64 0))⟩
      · by_cases h4 : found < 0
        · rw [if_neg h1] at h
          rw [Classical.not_not.1 h1] at HC
          rw [if_neg h2] at h
          have h2r := Classical.not_not.1 h2
          rw [h2r] at HR
          rw [if_neg h3] at h
          rw [if_pos (by exact Or.inl h4)] at h
          subst h
          obtain ⟨a1, a2, -⟩ := rightI_zero h2r
          obtain ⟨m, rfl⟩ : ∃ m : Nat, mode = (m : Int) := ⟨mode.toNat, by omega⟩
          have hm3 : m < 3 := by omega
          have hm0 : (0 : Int) ≤ (m : Int) := by omega
          have hmi : (m : Int) < 3 := by omega
          have hne : ((m : Int) == 3) = false := by simp; omega
          clear h1 h2 h2r hz h3 a1 a2
          have hd : decide (found < 0) = true := decide_eq_true h4
          have HB := allocs_below w [.cells #[.int .i64 (S 0).1, .int .i64 (S 0).2, .int .i64 (S 1).1, .int .i64 (S 1).2, .int .i64 (S 2).1, .int .i64 (S 2).2] 26, .cells #[.int .i64 (m : Int), .int .i64 run, v, .int .i64 rej] 29, .cells #[.int .i64 0, .int .i64 0, .slice none 0 0, .int .i64 0] 29]
          have K_s : Blk (allocs w [.cells #[.int .i64 (S 0).1, .int .i64 (S 0).2, .int .i64 (S 1).1, .int .i64 (S 1).2, .int .i64 (S 2).1, .int .i64 (S 2).2] 26, .cells #[.int .i64 (m : Int), .int .i64 run, v, .int .i64 rej] 29, .cells #[.int .i64 0, .int .i64 0, .slice none 0 0, .int .i64 0] 29]) (w.heap.size + 0) 26 #[.int .i64 (S 0).1, .int .i64 (S 0).2, .int .i64 (S 1).1, .int .i64 (S 1).2, .int .i64 (S 2).1, .int .i64 (S 2).2] := allocs_at w [.cells #[.int .i64 (S 0).1, .int .i64 (S 0).2, .int .i64 (S 1).1, .int .i64 (S 1).2, .int .i64 (S 2).1, .int .i64 (S 2).2] 26, .cells #[.int .i64 (m : Int), .int .i64 run, v, .int .i64 rej] 29, .cells #[.int .i64 0, .int .i64 0, .slice none 0 0, .int .i64 0] 29] 0 rfl
          have K_x : Blk (allocs w [.cells #[.int .i64 (S 0).1, .int .i64 (S 0).2, .int .i64 (S 1).1, .int .i64 (S 1).2, .int .i64 (S 2).1, .int .i64 (S 2).2] 26, .cells #[.int .i64 (m : Int), .int .i64 run, v, .int .i64 rej] 29, .cells #[.int .i64 0, .int .i64 0, .slice none 0 0, .int .i64 0] 29]) (w.heap.size + 1) 29 #[.int .i64 (m : Int), .int .i64 run, v, .int .i64 rej] := allocs_at w [.cells #[.int .i64 (S 0).1, .int .i64 (S 0).2, .int .i64 (S 1).1, .int .i64 (S 1).2, .int .i64 (S 2).1, .int .i64 (S 2).2] 26, .cells #[.int .i64 (m : Int), .int .i64 run, v, .int .i64 rej] 29, .cells #[.int .i64 0, .int .i64 0, .slice none 0 0, .int .i64 0] 29] 1 rfl
          have K_r : Blk (allocs w [.cells #[.int .i64 (S 0).1, .int .i64 (S 0).2, .int .i64 (S 1).1, .int .i64 (S 1).2, .int .i64 (S 2).1, .int .i64 (S 2).2] 26, .cells #[.int .i64 (m : Int), .int .i64 run, v, .int .i64 rej] 29, .cells #[.int .i64 0, .int .i64 0, .slice none 0 0, .int .i64 0] 29]) (w.heap.size + 2) 29 #[.int .i64 0, .int .i64 0, .slice none 0 0, .int .i64 0] := allocs_at w [.cells #[.int .i64 (S 0).1, .int .i64 (S 0).2, .int .i64 (S 1).1, .int .i64 (S 1).2, .int .i64 (S 2).1, .int .i64 (S 2).2] 26, .cells #[.int .i64 (m : Int), .int .i64 run, v, .int .i64 rej] 29, .cells #[.int .i64 0, .int .i64 0, .slice none 0 0, .int .i64 0] 29] 2 rfl
          unfold allocs at HB K_s K_x K_r
          simp only [List.foldl_cons, List.foldl_nil] at HB K_s K_x K_r
          rw [Nat.add_zero] at K_s
          go_enter Tryz.func25, Tryz.ntmps25
          go_upto_region 1 with (fail)
          generalize (((w.alloc (.cells #[.int .i64 (S 0).1, .int .i64 (S 0).2, .int .i64 (S 1).1, .int .i64 (S 1).2, .int .i64 (S 2).1, .int .i64 (S 2).2] 26)).alloc (.cells #[.int .i64 (m : Int), .int .i64 run, v, .int .i64 rej] 29)).alloc (.cells #[.int .i64 0, .int .i64 0, .slice none 0 0, .int .i64 0] 29)) = w0 at *
          replace K_s := hide K_s
          replace K_x := hide K_x
          replace K_r := hide K_r
          replace HB := hide HB
          have hat : ∀ j, j < 3 → w0.cell? ⟨w.heap.size, j * 2, none⟩ = some (.int .i64 (S j).1) ∧ w0.cell? ⟨w.heap.size, j * 2 + 1, none⟩ = some (.int .i64 (S j).2) := fun j hj => by
            rcases (by omega : j = 0 ∨ j = 1 ∨ j = 2) with rfl | rfl | rfl
            · exact ⟨(Blk.cell K_s.out 0).trans rfl, (Blk.cell K_s.out 1).trans rfl⟩
            · exact ⟨(Blk.cell K_s.out 2).trans rfl, (Blk.cell K_s.out 3).trans rfl⟩
            · exact ⟨(Blk.cell K_s.out 4).trans rfl, (Blk.cell K_s.out 5).trans rfl⟩
          obtain ⟨q1, q2⟩ := hat m hm3
          have Q1 := hide q1
          have Q2 := hide q2
          clear hat q1 q2
          have s0 := (Blk.cell K_s.out 0).trans (rfl : _ = some (Value.int .i64 (S 0).1))
          have s1 := (Blk.cell K_s.out 1).trans (rfl : _ = some (Value.int .i64 (S 0).2))
          have s2 := (Blk.cell K_s.out 2).trans (rfl : _ = some (Value.int .i64 (S 1).1))
          have s3 := (Blk.cell K_s.out 3).trans (rfl : _ = some (Value.int .i64 (S 1).2))
          have s4 := (Blk.cell K_s.out 4).trans (rfl : _ = some (Value.int .i64 (S 2).1))
          have s5 := (Blk.cell K_s.out 5).trans (rfl : _ = some (Value.int .i64 (S 2).2))
          go_wp2_with fail
          refine (HC.out _).mono ?_
          rintro e w1 ⟨rfl, hb⟩
          replace Q1 := hide ((bcell hb _ _ (block_lt_of_cell Q1.out)).trans Q1.out)
          replace Q2 := hide ((bcell hb _ _ (block_lt_of_cell Q2.out)).trans Q2.out)
          clear s0 s1 s2 s3 s4 s5
          replace K_s := hide (Blk.below K_s.out hb (Blk.lt K_s.out))
          replace K_x := hide (Blk.below K_x.out hb (Blk.lt K_x.out))
          replace K_r := hide (Blk.below K_r.out hb (Blk.lt K_r.out))
          replace HB := hide (HB.out.trans (hb.mono HB.out.size))
          clear hb
          have x0 := (Blk.cell K_x.out 0).trans (rfl : _ = some (Value.int .i64 (m : Int)))
          have x1 := (Blk.cell K_x.out 1).trans (rfl : _ = some (Value.int .i64 run))
          have x2 := (Blk.cell K_x.out 2).trans (rfl : _ = some (v))
          have x3 := (Blk.cell K_x.out 3).trans (rfl : _ = some (Value.int .i64 rej))
          go_wp2_with fail
          refine (HR.out _ (HV.out.below HB.out)).mono ?_
          rintro e w2 ⟨rfl, hb⟩
          replace Q1 := hide ((bcell hb _ _ (block_lt_of_cell Q1.out)).trans Q1.out)
          replace Q2 := hide ((bcell hb _ _ (block_lt_of_cell Q2.out)).trans Q2.out)
          clear x0 x1 x2 x3
          replace K_s := hide (Blk.below K_s.out hb (Blk.lt K_s.out))
          replace K_x := hide (Blk.below K_x.out hb (Blk.lt K_x.out))
          replace K_r := hide (Blk.below K_r.out hb (Blk.lt K_r.out))
          replace HB := hide (HB.out.trans (hb.mono HB.out.size))
          clear hb
          have x0 := (Blk.cell K_x.out 0).trans (rfl : _ = some (Value.int .i64 (m : Int)))
          have x1 := (Blk.cell K_x.out 1).trans (rfl : _ = some (Value.int .i64 run))
          have x2 := (Blk.cell K_x.out 2).trans (rfl : _ = some (v))
          have x3 := (Blk.cell K_x.out 3).trans (rfl : _ = some (Value.int .i64 rej))
          have q1 := Q1.out
          have q2 := Q2.out
          go_upto_region 10 with (fail)
          clear x0 x1 x2 x3
          have lt_ru_s : w.heap.size < w2.heap.size := Blk.lt K_s.out
          have lt_ru_x : (w.heap.size + 1) < w2.heap.size := Blk.lt K_x.out
          have lt_ru_r : (w.heap.size + 2) < w2.heap.size := Blk.lt K_r.out
          replace K_s := K_s.out.alloc (.cells #[.int .i64 (S m).1, .int .i64 (S m).2] 23)
          replace K_x := K_x.out.alloc (.cells #[.int .i64 (S m).1, .int .i64 (S m).2] 23)
          replace K_r := K_r.out.alloc (.cells #[.int .i64 (S m).1, .int .i64 (S m).2] 23)
          replace HB := HB.out.alloc HB.out.size (.cells #[.int .i64 (S m).1, .int .i64 (S m).2] 23)
          have K_ru := Blk.new w2 23 #[.int .i64 (S m).1, .int .i64 (S m).2]
          generalize w2.alloc (.cells #[.int .i64 (S m).1, .int .i64 (S m).2] 23) = wr at *
          replace K_s := hide K_s
          replace K_x := hide K_x
          replace K_r := hide K_r
          replace K_ru := hide K_ru
          replace HB := hide HB
          clear q1 q2
          have ru0 := (Blk.cell K_ru.out 0).trans (rfl : _ = some (Value.int .i64 (S m).1))
          have ru1 := (Blk.cell K_ru.out 1).trans (rfl : _ = some (Value.int .i64 (S m).2))
          have r0 := (Blk.cell K_r.out 0).trans (rfl : _ = some (Value.int .i64 0))
          have rf0 := Blk.frozen K_r.out 0
          have r1 := (Blk.cell K_r.out 1).trans (rfl : _ = some (Value.int .i64 0))
          have rf1 := Blk.frozen K_r.out 1
          have r2 := (Blk.cell K_r.out 2).trans (rfl : _ = some (Value.slice none 0 0))
          have rf2 := Blk.frozen K_r.out 2
          have r3 := (Blk.cell K_r.out 3).trans (rfl : _ = some (Value.int .i64 0))
          have rf3 := Blk.frozen K_r.out 3
          go_wp2_with fail
          have rc0 := (Blk.cell ((((K_r.out.set_ 0 (.int .i64 0)).set_ 1 (.int .i64 0)).set_ 2 (.slice none 0 0)).set_ 3 (.int .i64 0)) 0).trans (rfl : _ = some (Value.int .i64 0))
          have rc1 := (Blk.cell ((((K_r.out.set_ 0 (.int .i64 0)).set_ 1 (.int .i64 0)).set_ 2 (.slice none 0 0)).set_ 3 (.int .i64 0)) 1).trans (rfl : _ = some (Value.int .i64 0))
          have rc2 := (Blk.cell ((((K_r.out.set_ 0 (.int .i64 0)).set_ 1 (.int .i64 0)).set_ 2 (.slice none 0 0)).set_ 3 (.int .i64 0)) 2).trans (rfl : _ = some (Value.slice none 0 0))
          have rc3 := (Blk.cell ((((K_r.out.set_ 0 (.int .i64 0)).set_ 1 (.int .i64 0)).set_ 2 (.slice none 0 0)).set_ 3 (.int .i64 0)) 3).trans (rfl : _ = some (Value.int .i64 0))
          exact bodyPost_ret (v := .tuple #[.agg #[.int .i64 0, .int .i64 0, .slice none 0 0, .int .i64 0], .bool false, .int .i64 2]) (by simp [results, Tryz.results25, go_sem, rc0, rc1, rc2, rc3]) rfl ⟨rfl, ((((HB.out.setCell (p := ⟨(w.heap.size + 2), 0, none⟩) (by show w.heap.size ≤ (w.heap.size + 2); omega) (.int .i64 0)).setCell (p := ⟨(w.heap.size + 2), 1, none⟩) (by show w.heap.size ≤ (w.heap.size + 2); omega) (.int .i64 0)).setCell (p := ⟨(w.heap.size + 2), 2, none⟩) (by show w.heap.size ≤ (w.heap.size + 2); omega) (.slice none 0 0)).setCell (p := ⟨(w.heap.size + 2), 3, none⟩) (by show w.heap.size ≤ (w.heap.size + 2); omega) (.int .i64 0))⟩
        · by_cases h5 : (S mode.toNat).1 < found
          · rw [if_neg h1] at h
            rw [Classical.not_not.1 h1] at HC
            rw [if_neg h2] at h
            have h2r := Classical.not_not.1 h2
            rw [h2r] at HR
            rw [if_neg h3] at h
            rw [if_pos (by exact Or.inr h5)] at h
            subst h
            obtain ⟨a1, a2, -⟩ := rightI_zero h2r
            obtain ⟨m, rfl⟩ : ∃ m : Nat, mode = (m : Int) := ⟨mode.toNat, by omega⟩
            have hm3 : m < 3 := by omega
            have hm0 : (0 : Int) ≤ (m : Int) := by omega
            have hmi : (m : Int) < 3 := by omega
            have hne : ((m : Int) == 3) = false := by simp; omega
            clear h1 h2 h2r hz h3 a1 a2
            have hd : decide (found < 0) = false := decide_eq_false h4
            rw [show (m : Int).toNat = m by omega] at h5
            obtain ⟨p, hp⟩ : ∃ p, S m = p := ⟨_, rfl⟩
            obtain ⟨sz, ac⟩ := p
            rw [hp] at h5
            simp only at h5
            have HP := hide hp
            clear hp
            have hd2 : decide (sz < found) = true := decide_eq_true h5
            have HB := allocs_below w [.cells #[.int .i64 (S 0).1, .int .i64 (S 0).2, .int .i64 (S 1).1, .int .i64 (S 1).2, .int .i64 (S 2).1, .int .i64 (S 2).2] 26, .cells #[.int .i64 (m : Int), .int .i64 run, v, .int .i64 rej] 29, .cells #[.int .i64 0, .int .i64 0, .slice none 0 0, .int .i64 0] 29]
            have K_s : Blk (allocs w [.cells #[.int .i64 (S 0).1, .int .i64 (S 0).2, .int .i64 (S 1).1, .int .i64 (S 1).2, .int .i64 (S 2).1, .int .i64 (S 2).2] 26, .cells #[.int .i64 (m : Int), .int .i64 run, v, .int .i64 rej] 29, .cells #[.int .i64 0, .int .i64 0, .slice none 0 0, .int .i64 0] 29]) (w.heap.size + 0) 26 #[.int .i64 (S 0).1, .int .i64 (S 0).2, .int .i64 (S 1).1, .int .i64 (S 1).2, .int .i64 (S 2).1, .int .i64 (S 2).2] := allocs_at w [.cells #[.int .i64 (S 0).1, .int .i64 (S 0).2, .int .i64 (S 1).1, .int .i64 (S 1).2, .int .i64 (S 2).1, .int .i64 (S 2).2] 26, .cells #[.int .i64 (m : Int), .int .i64 run, v, .int .i64 rej] 29, .cells #[.int .i64 0, .int .i64 0, .slice none 0 0, .int .i64 0] 29] 0 rfl
            have K_x : Blk (allocs w [.cells #[.int .i64 (S 0).1, .int .i64 (S 0).2, .int .i64 (S 1).1, .int .i64 (S 1).2, .int .i64 (S 2).1, .int .i64 (S 2).2] 26, .cells #[.int .i64 (m : Int), .int .i64 run, v, .int .i64 rej] 29, .cells #[.int .i64 0, .int .i64 0, .slice none 0 0, .int .i64 0] 29]) (w.heap.size + 1) 29 #[.int .i64 (m : Int), .int .i64 run, v, .int .i64 rej] := allocs_at w [.cells #[.int .i64 (S 0).1, .int .i64 (S 0).2, .int .i64 (S 1).1, .int .i64 (S 1).2, .int .i64 (S 2).1, .int .i64 (S 2).2] 26, .cells #[.int .i64 (m : Int), .int .i64 run, v, .int .i64 rej] 29, .cells #[.int .i64 0, .int .i64 0, .slice none 0 0, .int .i64 0] 29] 1 rfl
            have K_r : Blk (allocs w [.cells #[.int .i64 (S 0).1, .int .i64 (S 0).2, .int .i64 (S 1).1, .int .i64 (S 1).2, .int .i64 (S 2).1, .int .i64 (S 2).2] 26, .cells #[.int .i64 (m : Int), .int .i64 run, v, .int .i64 rej] 29, .cells #[.int .i64 0, .int .i64 0, .slice none 0 0, .int .i64 0] 29]) (w.heap.size + 2) 29 #[.int .i64 0, .int .i64 0, .slice none 0 0, .int .i64 0] := allocs_at w [.cells #[.int .i64 (S 0).1, .int .i64 (S 0).2, .int .i64 (S 1).1, .int .i64 (S 1).2, .int .i64 (S 2).1, .int .i64 (S 2).2] 26, .cells #[.int .i64 (m : Int), .int .i64 run, v, .int .i64 rej] 29, .cells #[.int .i64 0, .int .i64 0, .slice none 0 0, .int .i64 0] 29] 2 rfl
            unfold allocs at HB K_s K_x K_r
            simp only [List.foldl_cons, List.foldl_nil] at HB K_s K_x K_r
            rw [Nat.add_zero] at K_s
            go_enter Tryz.func25, Tryz.ntmps25
            go_upto_region 1 with (fail)
            generalize (((w.alloc (.cells #[.int .i64 (S 0).1, .int .i64 (S 0).2, .int .i64 (S 1).1, .int .i64 (S 1).2, .int .i64 (S 2).1, .int .i64 (S 2).2] 26)).alloc (.cells #[.int .i64 (m : Int), .int .i64 run, v, .int .i64 rej] 29)).alloc (.cells #[.int .i64 0, .int .i64 0, .slice none 0 0, .int .i64 0] 29)) = w0 at *
            replace K_s := hide K_s
            replace K_x := hide K_x
            replace K_r := hide K_r
            replace HB := hide HB
            have hat : ∀ j, j < 3 → w0.cell? ⟨w.heap.size, j * 2, none⟩ = some (.int .i64 (S j).1) ∧ w0.cell? ⟨w.heap.size, j * 2 + 1, none⟩ = some (.int .i64 (S j).2) := fun j hj => by
              rcases (by omega : j = 0 ∨ j = 1 ∨ j = 2) with rfl | rfl | rfl
              · exact ⟨(Blk.cell K_s.out 0).trans rfl, (Blk.cell K_s.out 1).trans rfl⟩
              · exact ⟨(Blk.cell K_s.out 2).trans rfl, (Blk.cell K_s.out 3).trans rfl⟩
              · exact ⟨(Blk.cell K_s.out 4).trans rfl, (Blk.cell K_s.out 5).trans rfl⟩
            obtain ⟨q1, q2⟩ := hat m hm3
            rw [HP.out] at q1 q2
            have Q1 := hide q1
            have Q2 := hide q2
            clear hat q1 q2
            have s0 := (Blk.cell K_s.out 0).trans (rfl : _ = some (Value.int .i64 (S 0).1))
            have s1 := (Blk.cell K_s.out 1).trans (rfl : _ = some (Value.int .i64 (S 0).2))
            have s2 := (Blk.cell K_s.out 2).trans (rfl : _ = some (Value.int .i64 (S 1).1))
            have s3 := (Blk.cell K_s.out 3).trans (rfl : _ = some (Value.int .i64 (S 1).2))
            have s4 := (Blk.cell K_s.out 4).trans (rfl : _ = some (Value.int .i64 (S 2).1))
            have s5 := (Blk.cell K_s.out 5).trans (rfl : _ = some (Value.int .i64 (S 2).2))
            go_wp2_with fail
            refine (HC.out _).mono ?_
            rintro e w1 ⟨rfl, hb⟩
            replace Q1 := hide ((bcell hb _ _ (block_lt_of_cell Q1.out)).trans Q1.out)
            replace Q2 := hide ((bcell hb _ _ (block_lt_of_cell Q2.out)).trans Q2.out)
            clear s0 s1 s2 s3 s4 s5
            replace K_s := hide (Blk.below K_s.out hb (Blk.lt K_s.out))
            replace K_x := hide (Blk.below K_x.out hb (Blk.lt K_x.out))
            replace K_r := hide (Blk.below K_r.out hb (Blk.lt K_r.out))
            replace HB := hide (HB.out.trans (hb.mono HB.out.size))
            clear hb
            have x0 := (Blk.cell K_x.out 0).trans (rfl : _ = some (Value.int .i64 (m : Int)))
            have x1 := (Blk.cell K_x.out 1).trans (rfl : _ = some (Value.int .i64 run))
            have x2 := (Blk.cell K_x.out 2).trans (rfl : _ = some (v))
            have x3 := (Blk.cell K_x.out 3).trans (rfl : _ = some (Value.int .i64 rej))
            go_wp2_with fail
            refine (HR.out _ (HV.out.below HB.out)).mono ?_
            rintro e w2 ⟨rfl, hb⟩
            replace Q1 := hide ((bcell hb _ _ (block_lt_of_cell Q1.out)).trans Q1.out)
            replace Q2 := hide ((bcell hb _ _ (block_lt_of_cell Q2.out)).trans Q2.out)
            clear x0 x1 x2 x3
            replace K_s := hide (Blk.below K_s.out hb (Blk.lt K_s.out))
            replace K_x := hide (Blk.below K_x.out hb (Blk.lt K_x.out))
            replace K_r := hide (Blk.below K_r.out hb (Blk.lt K_r.out))
            replace HB := hide (HB.out.trans (hb.mono HB.out.size))
            clear hb
            have x0 := (Blk.cell K_x.out 0).trans (rfl : _ = some (Value.int .i64 (m : Int)))
            have x1 := (Blk.cell K_x.out 1).trans (rfl : _ = some (Value.int .i64 run))
            have x2 := (Blk.cell K_x.out 2).trans (rfl : _ = some (v))
            have x3 := (Blk.cell K_x.out 3).trans (rfl : _ = some (Value.int .i64 rej))
            have q1 := Q1.out
            have q2 := Q2.out
            go_upto_region 10 with (fail)
            clear x0 x1 x2 x3
            have lt_ru_s : w.heap.size < w2.heap.size := Blk.lt K_s.out
            have lt_ru_x : (w.heap.size + 1) < w2.heap.size := Blk.lt K_x.out
            have lt_ru_r : (w.heap.size + 2) < w2.heap.size := Blk.lt K_r.out
            replace K_s := K_s.out.alloc (.cells #[.int .i64 sz, .int .i64 ac] 23)
            replace K_x := K_x.out.alloc (.cells #[.int .i64 sz, .int .i64 ac] 23)
            replace K_r := K_r.out.alloc (.cells #[.int .i64 sz, .int .i64 ac] 23)
            replace HB := HB.out.alloc HB.out.size (.cells #[.int .i64 sz, .int .i64 ac] 23)
            have K_ru := Blk.new w2 23 #[.int .i64 sz, .int .i64 ac]
            generalize w2.alloc (.cells #[.int .i64 sz, .int .i64 ac] 23) = wr at *
            replace K_s := hide K_s
            replace K_x := hide K_x
            replace K_r := hide K_r
            replace K_ru := hide K_ru
            replace HB := hide HB
            clear q1 q2
            have ru0 := (Blk.cell K_ru.out 0).trans (rfl : _ = some (Value.int .i64 sz))
            have ru1 := (Blk.cell K_ru.out 1).trans (rfl : _ = some (Value.int .i64 ac))
            have r0 := (Blk.cell K_r.out 0).trans (rfl : _ = some (Value.int .i64 0))
            have rf0 := Blk.frozen K_r.out 0
            have r1 := (Blk.cell K_r.out 1).trans (rfl : _ = some (Value.int .i64 0))
            have rf1 := Blk.frozen K_r.out 1
            have r2 := (Blk.cell K_r.out 2).trans (rfl : _ = some (Value.slice none 0 0))
            have rf2 := Blk.frozen K_r.out 2
            have r3 := (Blk.cell K_r.out 3).trans (rfl : _ = some (Value.int .i64 0))
            have rf3 := Blk.frozen K_r.out 3
            go_wp2_with fail
            have rc0 := (Blk.cell ((((K_r.out.set_ 0 (.int .i64 0)).set_ 1 (.int .i64 0)).set_ 2 (.slice none 0 0)).set_ 3 (.int .i64 0)) 0).trans (rfl : _ = some (Value.int .i64 0))
            have rc1 := (Blk.cell ((((K_r.out.set_ 0 (.int .i64 0)).set_ 1 (.int .i64 0)).set_ 2 (.slice none 0 0)).set_ 3 (.int .i64 0)) 1).trans (rfl : _ = some (Value.int .i64 0))
            have rc2 := (Blk.cell ((((K_r.out.set_ 0 (.int .i64 0)).set_ 1 (.int .i64 0)).set_ 2 (.slice none 0 0)).set_ 3 (.int .i64 0)) 2).trans (rfl : _ = some (Value.slice none 0 0))
            have rc3 := (Blk.cell ((((K_r.out.set_ 0 (.int .i64 0)).set_ 1 (.int .i64 0)).set_ 2 (.slice none 0 0)).set_ 3 (.int .i64 0)) 3).trans (rfl : _ = some (Value.int .i64 0))
            exact bodyPost_ret (v := .tuple #[.agg #[.int .i64 0, .int .i64 0, .slice none 0 0, .int .i64 0], .bool false, .int .i64 2]) (by simp [results, Tryz.results25, go_sem, rc0, rc1, rc2, rc3]) rfl ⟨rfl, ((((HB.out.setCell (p := ⟨(w.heap.size + 2), 0, none⟩) (by show w.heap.size ≤ (w.heap.size + 2); omega) (.int .i64 0)).setCell (p := ⟨(w.heap.size + 2), 1, none⟩) (by show w.heap.size ≤ (w.heap.size + 2); omega) (.int .i64 0)).setCell (p := ⟨(w.heap.size + 2), 2, none⟩) (by show w.heap.size ≤ (w.heap.size + 2); omega) (.slice none 0 0)).setCell (p := ⟨(w.heap.size + 2), 3, none⟩) (by show w.heap.size ≤ (w.heap.size + 2); omega) (.int .i64 0))⟩
          · rw [if_neg h1, if_neg h2, if_neg h3, if_neg (by rintro (h | h); exact h4 h; exact h5 h)] at h
            exact absurd h.symm hz
set_option maxRecDepth 100000 in
set_option maxHeartbeats 4000000 in
theorem swnext_ok (w : World) (S : Nat → Int × Int) (x : Sw) (found : Int) (v : Value) (hv : SlL w v (bcl x.last)) (hS : ckS S = 0) (hx : RightS x) (h3 : x.mode ≠ 3) (h0 : 0 ≤ found) (hf : found ≤ (S x.mode).1) :
    Calls Tryz.prog 25 #[schV S, .agg #[.int .i64 (x.mode : Int), .int .i64 (x.run : Int), v, .int .i64 (x.rej : Int)], .int .i64 found] w fun e w' => ∃ u, e = .returned (.tuple #[u, .bool (decide (found ≤ (S x.mode).2)), .int .i64 0]) ∧ StN w.heap.size w' u (goesS x (decide (found ≤ (S x.mode).2))) ∧ Below w.heap.size w w' := by
  have HV := hide hv
  have HC := hide (fun (W : World) => swck_any W S)
  have hlen := (rightI_zero hx).2.2.2.2.2.2.1
  have HR := hide (fun (W : World) (h : SlL W v (bcl x.last)) => swright_any W (x.mode : Int) (x.run : Int) (x.rej : Int) v x.last h (by omega))
  rw [show rightI (x.mode : Int) (x.run : Int) x.last (x.rej : Int) = 0 from hx] at HR
  rw [hS] at HC
  unfold schV at HC ⊢
  obtain ⟨a1, a2, -⟩ := rightI_zero hx
  have hok := okP_of_right hx
  obtain ⟨hg1, hg2⟩ := goesS_ok hx (decide (found ≤ (S x.mode).2))
  have HO := hide (fun (W : World) (h : SlL W v (bcl x.last)) => ofS_any W (x.mode : Int) (x.run : Int) (x.rej : Int) v x.last h hlen)
  obtain ⟨ok, hokk⟩ : ∃ b, decide (found ≤ (S x.mode).2) = b := ⟨_, rfl⟩
  rw [hokk] at hg1 hg2 ⊢
  have HG := hide (fun (W : World) => goes_any W (ptOf x) ok hok)
  rw [← hg1] at HG
  have hy4 := (rightI_zero hg2).2.2.2.2.2.2.1
  obtain ⟨y, hy⟩ : ∃ y, goesS x ok = y := ⟨_, rfl⟩
  rw [hy] at HG hy4 ⊢
  have HT := hide (fun (W : World) => state_any W y.mode y.run y.rej y.last hy4)
  unfold ptV ptOf at HG
  simp only at HG
  clear hok hg1 hg2 hlen hy hy4
  clear hx hS
  obtain ⟨m, rn, l, d⟩ := x
  simp only at *
  have hm3 : m < 3 := by omega
  have hm0 : (0 : Int) ≤ (m : Int) := by omega
  have hmi : (m : Int) < 3 := by omega
  have hne : ((m : Int) == 3) = false := by simp; omega
  obtain ⟨p, hp⟩ : ∃ p, S m = p := ⟨_, rfl⟩
  obtain ⟨sz, ac⟩ := p
  rw [hp] at hf hokk
  simp only at hf hokk
  have HP := hide hp
  clear hp h3 a1 a2
  have hd : decide (found < 0) = false := decide_eq_false (by omega)
  have hd2 : decide (sz < found) = false := decide_eq_false (by omega)
  have HB := allocs_below w [.cells #[.int .i64 (S 0).1, .int .i64 (S 0).2, .int .i64 (S 1).1, .int .i64 (S 1).2, .int .i64 (S 2).1, .int .i64 (S 2).2] 26, .cells #[.int .i64 (m : Int), .int .i64 (rn : Int), v, .int .i64 (d : Int)] 29, .cells #[.int .i64 0, .int .i64 0, .slice none 0 0, .int .i64 0] 29]
  have K_s : Blk (allocs w [.cells #[.int .i64 (S 0).1, .int .i64 (S 0).2, .int .i64 (S 1).1, .int .i64 (S 1).2, .int .i64 (S 2).1, .int .i64 (S 2).2] 26, .cells #[.int .i64 (m : Int), .int .i64 (rn : Int), v, .int .i64 (d : Int)] 29, .cells #[.int .i64 0, .int .i64 0, .slice none 0 0, .int .i64 0] 29]) (w.heap.size + 0) 26 #[.int .i64 (S 0).1, .int .i64 (S 0).2, .int .i64 (S 1).1, .int .i64 (S 1).2, .int .i64 (S 2).1, .int .i64 (S 2).2] := allocs_at w [.cells #[.int .i64 (S 0).1, .int .i64 (S 0).2, .int .i64 (S 1).1, .int .i64 (S 1).2, .int .i64 (S 2).1, .int .i64 (S 2).2] 26, .cells #[.int .i64 (m : Int), .int .i64 (rn : Int), v, .int .i64 (d : Int)] 29, .cells #[.int .i64 0, .int .i64 0, .slice none 0 0, .int .i64 0] 29] 0 rfl
  have K_x : Blk (allocs w [.cells #[.int .i64 (S 0).1, .int .i64 (S 0).2, .int .i64 (S 1).1, .int .i64 (S 1).2, .int .i64 (S 2).1, .int .i64 (S 2).2] 26, .cells #[.int .i64 (m : Int), .int .i64 (rn : Int), v, .int .i64 (d : Int)] 29, .cells #[.int .i64 0, .int .i64 0, .slice none 0 0, .int .i64 0] 29]) (w.heap.size + 1) 29 #[.int .i64 (m : Int), .int .i64 (rn : Int), v, .int .i64 (d : Int)] := allocs_at w [.cells #[.int .i64 (S 0).1, .int .i64 (S 0).2, .int .i64 (S 1).1, .int .i64 (S 1).2, .int .i64 (S 2).1, .int .i64 (S 2).2] 26, .cells #[.int .i64 (m : Int), .int .i64 (rn : Int), v, .int .i64 (d : Int)] 29, .cells #[.int .i64 0, .int .i64 0, .slice none 0 0, .int .i64 0] 29] 1 rfl
  have K_r : Blk (allocs w [.cells #[.int .i64 (S 0).1, .int .i64 (S 0).2, .int .i64 (S 1).1, .int .i64 (S 1).2, .int .i64 (S 2).1, .int .i64 (S 2).2] 26, .cells #[.int .i64 (m : Int), .int .i64 (rn : Int), v, .int .i64 (d : Int)] 29, .cells #[.int .i64 0, .int .i64 0, .slice none 0 0, .int .i64 0] 29]) (w.heap.size + 2) 29 #[.int .i64 0, .int .i64 0, .slice none 0 0, .int .i64 0] := allocs_at w [.cells #[.int .i64 (S 0).1, .int .i64 (S 0).2, .int .i64 (S 1).1, .int .i64 (S 1).2, .int .i64 (S 2).1, .int .i64 (S 2).2] 26, .cells #[.int .i64 (m : Int), .int .i64 (rn : Int), v, .int .i64 (d : Int)] 29, .cells #[.int .i64 0, .int .i64 0, .slice none 0 0, .int .i64 0] 29] 2 rfl
  unfold allocs at HB K_s K_x K_r
  simp only [List.foldl_cons, List.foldl_nil] at HB K_s K_x K_r
  rw [Nat.add_zero] at K_s
  go_enter Tryz.func25, Tryz.ntmps25
  go_upto_region 1 with (fail)
  generalize (((w.alloc (.cells #[.int .i64 (S 0).1, .int .i64 (S 0).2, .int .i64 (S 1).1, .int .i64 (S 1).2, .int .i64 (S 2).1, .int .i64 (S 2).2] 26)).alloc (.cells #[.int .i64 (m : Int), .int .i64 (rn : Int), v, .int .i64 (d : Int)] 29)).alloc (.cells #[.int .i64 0, .int .i64 0, .slice none 0 0, .int .i64 0] 29)) = w0 at *
  replace K_s := hide K_s
  replace K_x := hide K_x
  replace K_r := hide K_r
  replace HB := hide HB
  have hat : ∀ j, j < 3 → w0.cell? ⟨w.heap.size, j * 2, none⟩ = some (.int .i64 (S j).1) ∧ w0.cell? ⟨w.heap.size, j * 2 + 1, none⟩ = some (.int .i64 (S j).2) := fun j hj => by
    rcases (by omega : j = 0 ∨ j = 1 ∨ j = 2) with rfl | rfl | rfl
    · exact ⟨(Blk.cell K_s.out 0).trans rfl, (Blk.cell K_s.out 1).trans rfl⟩
    · exact ⟨(Blk.cell K_s.out 2).trans rfl, (Blk.cell K_s.out 3).trans rfl⟩
    · exact ⟨(Blk.cell K_s.out 4).trans rfl, (Blk.cell K_s.out 5).trans rfl⟩
  obtain ⟨q1, q2⟩ := hat m hm3
  rw [HP.out] at q1 q2
  have Q1 := hide q1
  have Q2 := hide q2
  clear hat q1 q2
  have s0 := (Blk.cell K_s.out 0).trans (rfl : _ = some (Value.int .i64 (S 0).1))
  have s1 := (Blk.cell K_s.out 1).trans (rfl : _ = some (Value.int .i64 (S 0).2))
  have s2 := (Blk.cell K_s.out 2).trans (rfl : _ = some (Value.int .i64 (S 1).1))
  have s3 := (Blk.cell K_s.out 3).trans (rfl : _ = some (Value.int .i64 (S 1).2))
  have s4 := (Blk.cell K_s.out 4).trans (rfl : _ = some (Value.int .i64 (S 2).1))
  have s5 := (Blk.cell K_s.out 5).trans (rfl : _ = some (Value.int .i64 (S 2).2))
  go_wp2_with fail
  refine (HC.out _).mono ?_
  rintro e w1 ⟨rfl, hb⟩
  replace Q1 := hide ((bcell hb _ _ (block_lt_of_cell Q1.out)).trans Q1.out)
  replace Q2 := hide ((bcell hb _ _ (block_lt_of_cell Q2.out)).trans Q2.out)
  clear s0 s1 s2 s3 s4 s5
  replace K_s := hide (Blk.below K_s.out hb (Blk.lt K_s.out))
  replace K_x := hide (Blk.below K_x.out hb (Blk.lt K_x.out))
  replace K_r := hide (Blk.below K_r.out hb (Blk.lt K_r.out))
  replace HB := hide (HB.out.trans (hb.mono HB.out.size))
  clear hb
  have x0 := (Blk.cell K_x.out 0).trans (rfl : _ = some (Value.int .i64 (m : Int)))
  have x1 := (Blk.cell K_x.out 1).trans (rfl : _ = some (Value.int .i64 (rn : Int)))
  have x2 := (Blk.cell K_x.out 2).trans (rfl : _ = some (v))
  have x3 := (Blk.cell K_x.out 3).trans (rfl : _ = some (Value.int .i64 (d : Int)))
  go_wp2_with fail
  refine (HR.out _ (HV.out.below HB.out)).mono ?_
  rintro e w2 ⟨rfl, hb⟩
  replace Q1 := hide ((bcell hb _ _ (block_lt_of_cell Q1.out)).trans Q1.out)
  replace Q2 := hide ((bcell hb _ _ (block_lt_of_cell Q2.out)).trans Q2.out)
  clear x0 x1 x2 x3
  replace K_s := hide (Blk.below K_s.out hb (Blk.lt K_s.out))
  replace K_x := hide (Blk.below K_x.out hb (Blk.lt K_x.out))
  replace K_r := hide (Blk.below K_r.out hb (Blk.lt K_r.out))
  replace HB := hide (HB.out.trans (hb.mono HB.out.size))
  clear hb
  have x0 := (Blk.cell K_x.out 0).trans (rfl : _ = some (Value.int .i64 (m : Int)))
  have x1 := (Blk.cell K_x.out 1).trans (rfl : _ = some (Value.int .i64 (rn : Int)))
  have x2 := (Blk.cell K_x.out 2).trans (rfl : _ = some (v))
  have x3 := (Blk.cell K_x.out 3).trans (rfl : _ = some (Value.int .i64 (d : Int)))
  have q1 := Q1.out
  have q2 := Q2.out
  go_upto_region 10 with (fail)
  clear x0 x1 x2 x3
  have lt_ru_s : w.heap.size < w2.heap.size := Blk.lt K_s.out
  have lt_ru_x : (w.heap.size + 1) < w2.heap.size := Blk.lt K_x.out
  have lt_ru_r : (w.heap.size + 2) < w2.heap.size := Blk.lt K_r.out
  replace K_s := K_s.out.alloc (.cells #[.int .i64 sz, .int .i64 ac] 23)
  replace K_x := K_x.out.alloc (.cells #[.int .i64 sz, .int .i64 ac] 23)
  replace K_r := K_r.out.alloc (.cells #[.int .i64 sz, .int .i64 ac] 23)
  replace HB := HB.out.alloc HB.out.size (.cells #[.int .i64 sz, .int .i64 ac] 23)
  have K_ru := Blk.new w2 23 #[.int .i64 sz, .int .i64 ac]
  generalize w2.alloc (.cells #[.int .i64 sz, .int .i64 ac] 23) = wr at *
  replace K_s := hide K_s
  replace K_x := hide K_x
  replace K_r := hide K_r
  replace K_ru := hide K_ru
  replace HB := hide HB
  clear q1 q2 Q1 Q2
  have x0 := (Blk.cell K_x.out 0).trans (rfl : _ = some (Value.int .i64 (m : Int)))
  have x1 := (Blk.cell K_x.out 1).trans (rfl : _ = some (Value.int .i64 (rn : Int)))
  have x2 := (Blk.cell K_x.out 2).trans (rfl : _ = some (v))
  have x3 := (Blk.cell K_x.out 3).trans (rfl : _ = some (Value.int .i64 (d : Int)))
  have ru0 := (Blk.cell K_ru.out 0).trans (rfl : _ = some (Value.int .i64 sz))
  have ru1 := (Blk.cell K_ru.out 1).trans (rfl : _ = some (Value.int .i64 ac))
  go_wp2_with fail
  refine (HO.out _ (HV.out.below HB.out)).mono ?_
  rintro e w3 ⟨rfl, hb⟩
  clear x0 x1 x2 x3 ru0 ru1
  replace K_s := hide (Blk.below K_s.out hb (Blk.lt K_s.out))
  replace K_x := hide (Blk.below K_x.out hb (Blk.lt K_x.out))
  replace K_r := hide (Blk.below K_r.out hb (Blk.lt K_r.out))
  replace K_ru := hide (Blk.below K_ru.out hb (Blk.lt K_ru.out))
  replace HB := hide (HB.out.trans (hb.mono HB.out.size))
  clear hb
  go_wp2_with fail
  refine (HG.out _).mono ?_
  rintro e wg ⟨rfl, hb⟩
  replace K_s := hide (Blk.below K_s.out hb (Blk.lt K_s.out))
  replace K_x := hide (Blk.below K_x.out hb (Blk.lt K_x.out))
  replace K_r := hide (Blk.below K_r.out hb (Blk.lt K_r.out))
  replace K_ru := hide (Blk.below K_ru.out hb (Blk.lt K_ru.out))
  replace HB := hide (HB.out.trans (hb.mono HB.out.size))
  clear hb
  go_wp2_with fail
  refine (HT.out _).mono ?_
  rintro e wt ⟨u, rfl, hst, hb⟩
  obtain ⟨sl, rfl, hsl, hfr⟩ := hst
  obtain ⟨A9, N9, c9, rfl⟩ := hsl.shape3
  have HSL := hide hsl
  have HFR := hide (hfr.mono HB.out.size)
  clear hfr
  clear hsl
  replace K_s := hide (Blk.below K_s.out hb (Blk.lt K_s.out))
  replace K_x := hide (Blk.below K_x.out hb (Blk.lt K_x.out))
  replace K_r := hide (Blk.below K_r.out hb (Blk.lt K_r.out))
  replace K_ru := hide (Blk.below K_ru.out hb (Blk.lt K_ru.out))
  replace HB := hide (HB.out.trans (hb.mono HB.out.size))
  clear hb
  have r0 := (Blk.cell K_r.out 0).trans (rfl : _ = some (Value.int .i64 0))
  have rf0 := Blk.frozen K_r.out 0
  have r1 := (Blk.cell K_r.out 1).trans (rfl : _ = some (Value.int .i64 0))
  have rf1 := Blk.frozen K_r.out 1
  have r2 := (Blk.cell K_r.out 2).trans (rfl : _ = some (Value.slice none 0 0))
  have rf2 := Blk.frozen K_r.out 2
  have r3 := (Blk.cell K_r.out 3).trans (rfl : _ = some (Value.int .i64 0))
  have rf3 := Blk.frozen K_r.out 3
  go_wp2_with fail
  have rc0 := (Blk.cell ((((K_r.out.set_ 0 (.int .i64 (y.mode : Int))).set_ 1 (.int .i64 (y.run : Int))).set_ 2 (.slice A9 N9 c9)).set_ 3 (.int .i64 (y.rej : Int))) 0).trans (rfl : _ = some (Value.int .i64 (y.mode : Int)))
  have rc1 := (Blk.cell ((((K_r.out.set_ 0 (.int .i64 (y.mode : Int))).set_ 1 (.int .i64 (y.run : Int))).set_ 2 (.slice A9 N9 c9)).set_ 3 (.int .i64 (y.rej : Int))) 1).trans (rfl : _ = some (Value.int .i64 (y.run : Int)))
  have rc2 := (Blk.cell ((((K_r.out.set_ 0 (.int .i64 (y.mode : Int))).set_ 1 (.int .i64 (y.run : Int))).set_ 2 (.slice A9 N9 c9)).set_ 3 (.int .i64 (y.rej : Int))) 2).trans (rfl : _ = some (Value.slice A9 N9 c9))
  have rc3 := (Blk.cell ((((K_r.out.set_ 0 (.int .i64 (y.mode : Int))).set_ 1 (.int .i64 (y.run : Int))).set_ 2 (.slice A9 N9 c9)).set_ 3 (.int .i64 (y.rej : Int))) 3).trans (rfl : _ = some (Value.int .i64 (y.rej : Int)))
  exact bodyPost_ret (v := .tuple #[.agg #[.int .i64 (y.mode : Int), .int .i64 (y.run : Int), .slice A9 N9 c9, .int .i64 (y.rej : Int)], .bool ok, .int .i64 0]) (by simp [results, Tryz.results25, go_sem, rc0, rc1, rc2, rc3]) rfl ⟨_, rfl, ⟨_, rfl, HSL.out.own K_r.out zs_nobool (only_setCell (only_setCell (only_setCell (only_setCell (only_refl _ (some ((w.heap.size + 2)))) (p := ⟨(w.heap.size + 2), 0, none⟩) (Or.inl rfl) _) (p := ⟨(w.heap.size + 2), 1, none⟩) (Or.inl rfl) _) (p := ⟨(w.heap.size + 2), 2, none⟩) (Or.inl rfl) _) (p := ⟨(w.heap.size + 2), 3, none⟩) (Or.inl rfl) _), HFR.out⟩, ((((HB.out.setCell (p := ⟨(w.heap.size + 2), 0, none⟩) (by show w.heap.size ≤ (w.heap.size + 2); omega) (.int .i64 (y.mode : Int))).setCell (p := ⟨(w.heap.size + 2), 1, none⟩) (by show w.heap.size ≤ (w.heap.size + 2); omega) (.int .i64 (y.run : Int))).setCell (p := ⟨(w.heap.size + 2), 2, none⟩) (by show w.heap.size ≤ (w.heap.size + 2); omega) (.slice A9 N9 c9)).setCell (p := ⟨(w.heap.size + 2), 3, none⟩) (by show w.heap.size ≤ (w.heap.size + 2); omega) (.int .i64 (y.rej : Int)))⟩
end Go.Proofs.YthmmgjieppknkaaGreatDoor
