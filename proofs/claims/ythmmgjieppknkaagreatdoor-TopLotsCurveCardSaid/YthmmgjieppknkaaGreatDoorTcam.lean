/- Contracts and plain laws that the statements of this seat share (part Tcam). -/
import Derived.Test.YthmmgjieppknkaaGreatDoorTcab
import Derived.Test.YthmmgjieppknkaaGreatDoorTcac
import Derived.Test.YthmmgjieppknkaaGreatDoorTcad
import Derived.Test.YthmmgjieppknkaaGreatDoorTcae
import Derived.Test.YthmmgjieppknkaaGreatDoorTcal
import Derived.Test.YthmmgjieppknkaaGreatDoorKtaa
import Derived.Test.YthmmgjieppknkaaGreatDoorKtab
import Derived.Test.YthmmgjieppknkaaGreatDoorKtac
import Derived.Test.YthmmgjieppknkaaGreatDoorKtad
import Derived.Test.YthmmgjieppknkaaGreatDoorKtag
import Derived.Test.YthmmgjieppknkaaGreatDoorKtai
import Derived.Test.YthmmgjieppknkaaGreatDoorKtak
import Derived.Test.YthmmgjieppknkaaGreatDoorKtal
import Derived.Test.YthmmgjieppknkaaGreatDoorKtam
import Derived.Test.YthmmgjieppknkaaGreatDoorKtas
import Derived.Test.YthmmgjieppknkaaGreatDoorKtat
import Derived.Test.YthmmgjieppknkaaGreatDoorKtau
import Derived.Deep.AppendLies
namespace Go.Proofs.YthmmgjieppknkaaGreatDoor
open Go.RowKit MLab
theorem nalcW (w : World) (o : Obj) : Below w.heap.size w (w.alloc o) := (Below.refl _ _).alloc (Nat.le_refl _) _
end Go.Proofs.YthmmgjieppknkaaGreatDoor

namespace Go.Proofs.YthmmgjieppknkaaGreatDoor
open Go.RowKit MLab
def runG (S : Nat → Int × Int) (L : List Int) : Cr ⊕ (Nat × Int) := if ckS S ≠ 0 then .inr (0, 2) else if 4096 < L.length then .inr (0, 5) else goC (ruN S) L 0 cr0
theorem run_all (w : World) (S : Nat → Int × Int) (v : Value) (L : List Int) (hv : SlL w v (zcl L)) : Calls Tryz.prog 60 #[schV S, v] w (RunP w (runG S L)) := by
  unfold runG
  by_cases h : ckS S ≠ 0
  · rw [if_pos h]
    exact (run_bad w S v h).mono (fun e w' h => RunP.err rfl h.1 h.2)
  · rw [if_neg h]
    have h0 := Classical.not_not.1 h
    by_cases hl : 4096 < L.length
    · rw [if_pos hl]
      obtain ⟨A, c, rfl, _⟩ := hv
      rw [zcl_len]
      exact (run_many w S A L.length c h0 hl).mono (fun e w' h => RunP.err rfl h.1 h.2)
    · rw [if_neg hl]
      exact run_any w S v L hv h0 (by omega)
set_option maxRecDepth 100000 in
set_option maxHeartbeats 4000000 in
theorem swrun_ok (w : World) (S : Nat → Int × Int) (v : Value) (L : List Int) (c : Cr) (hv : SlL w v (zcl L)) (hg : runG S L = .inl c) :
    Calls Tryz.prog 27 #[schV S, v] w fun e w' => (∃ u rs, e = .returned (.tuple #[u, rs, .int .i64 0, .int .i64 0]) ∧ StV w' u c.st ∧ SlL w' rs (bcl c.res)) ∧ Below w.heap.size w w' := by
  have HG := hide (fun (W : World) (h : SlL W v (zcl L)) => run_all W S v L h)
  rw [hg] at HG
  unfold RunP at HG
  have HV := hide hv
  unfold schV at HG ⊢
  clear hg hv
  have HB := allocs_below w [.cells #[.int .i64 (S 0).1, .int .i64 (S 0).2, .int .i64 (S 1).1, .int .i64 (S 1).2, .int .i64 (S 2).1, .int .i64 (S 2).2] 26, .cells #[.int .i64 0, .int .i64 0, .slice none 0 0, .int .i64 0] 29]
  have K_s : Blk (allocs w [.cells #[.int .i64 (S 0).1, .int .i64 (S 0).2, .int .i64 (S 1).1, .int .i64 (S 1).2, .int .i64 (S 2).1, .int .i64 (S 2).2] 26, .cells #[.int .i64 0, .int .i64 0, .slice none 0 0, .int .i64 0] 29]) (w.heap.size + 0) 26 #[.int .i64 (S 0).1, .int .i64 (S 0).2, .int .i64 (S 1).1, .int .i64 (S 1).2, .int .i64 (S 2).1, .int .i64 (S 2).2] := allocs_at w [.cells #[.int .i64 (S 0).1, .int .i64 (S 0).2, .int .i64 (S 1).1, .int .i64 (S 1).2, .int .i64 (S 2).1, .int .i64 (S 2).2] 26, .cells #[.int .i64 0, .int .i64 0, .slice none 0 0, .int .i64 0] 29] 0 rfl
  have K_r : Blk (allocs w [.cells #[.int .i64 (S 0).1, .int .i64 (S 0).2, .int .i64 (S 1).1, .int .i64 (S 1).2, .int .i64 (S 2).1, .int .i64 (S 2).2] 26, .cells #[.int .i64 0, .int .i64 0, .slice none 0 0, .int .i64 0] 29]) (w.heap.size + 1) 29 #[.int .i64 0, .int .i64 0, .slice none 0 0, .int .i64 0] := allocs_at w [.cells #[.int .i64 (S 0).1, .int .i64 (S 0).2, .int .i64 (S 1).1, .int .i64 (S 1).2, .int .i64 (S 2).1, .int .i64 (S 2).2] 26, .cells #[.int .i64 0, .int .i64 0, .slice none 0 0, .int .i64 0] 29] 1 rfl
  unfold allocs at HB K_s K_r
  simp only [List.foldl_cons, List.foldl_nil] at HB K_s K_r
  rw [Nat.add_zero] at K_s
  go_enter Tryz.func27, Tryz.ntmps27
  go_upto_region 1 with (fail)
  generalize ((w.alloc (.cells #[.int .i64 (S 0).1, .int .i64 (S 0).2, .int .i64 (S 1).1, .int .i64 (S 1).2, .int .i64 (S 2).1, .int .i64 (S 2).2] 26)).alloc (.cells #[.int .i64 0, .int .i64 0, .slice none 0 0, .int .i64 0] 29)) = w0 at *
  replace K_s := hide K_s
  replace K_r := hide K_r
  replace HB := hide HB
  have s0 := (Blk.cell K_s.out 0).trans (rfl : _ = some (Value.int .i64 (S 0).1))
  have s1 := (Blk.cell K_s.out 1).trans (rfl : _ = some (Value.int .i64 (S 0).2))
  have s2 := (Blk.cell K_s.out 2).trans (rfl : _ = some (Value.int .i64 (S 1).1))
  have s3 := (Blk.cell K_s.out 3).trans (rfl : _ = some (Value.int .i64 (S 1).2))
  have s4 := (Blk.cell K_s.out 4).trans (rfl : _ = some (Value.int .i64 (S 2).1))
  have s5 := (Blk.cell K_s.out 5).trans (rfl : _ = some (Value.int .i64 (S 2).2))
  go_wp2_with fail
  refine (HG.out _ (HV.out.below HB.out)).mono ?_
  rintro e wb ⟨u, rs, rfl, hst, hrs, hb⟩
  obtain ⟨sl, rfl, hsl⟩ := hst
  obtain ⟨A, N, cc, rfl⟩ := hsl.shape3
  obtain ⟨A2, N2, c2, rfl⟩ := hrs.shape3
  have HSL := hide hsl
  have HRS := hide hrs
  clear hsl hrs
  clear s0 s1 s2 s3 s4 s5
  replace K_s := hide (Blk.below K_s.out hb (Blk.lt K_s.out))
  replace K_r := hide (Blk.below K_r.out hb (Blk.lt K_r.out))
  replace HB := hide (HB.out.trans (hb.mono HB.out.size))
  clear hb
  have sl2 := HSL.out.below (nalcW wb (.cells #[.int .i64 (c.st.mode : Int), .int .i64 (c.st.run : Int), .slice A N cc, .int .i64 (c.st.rej : Int)] 29))
  have rs2 := HRS.out.below (nalcW wb (.cells #[.int .i64 (c.st.mode : Int), .int .i64 (c.st.run : Int), .slice A N cc, .int .i64 (c.st.rej : Int)] 29))
  go_upto_region 2 with (fail)
  have hbs := HB.out.size
  have kx := Blk.new wb 29 #[.int .i64 (c.st.mode : Int), .int .i64 (c.st.run : Int), .slice A N cc, .int .i64 (c.st.rej : Int)]
  have hb4 := HB.out.alloc hbs (.cells #[.int .i64 (c.st.mode : Int), .int .i64 (c.st.run : Int), .slice A N cc, .int .i64 (c.st.rej : Int)] 29)
  have kr := K_r.out.alloc (.cells #[.int .i64 (c.st.mode : Int), .int .i64 (c.st.run : Int), .slice A N cc, .int .i64 (c.st.rej : Int)] 29)
  generalize wb.alloc (.cells #[.int .i64 (c.st.mode : Int), .int .i64 (c.st.run : Int), .slice A N cc, .int .i64 (c.st.rej : Int)] 29) = w4 at sl2 rs2 kx hb4 kr ⊢
  have HSL2 := hide sl2
  have HRS2 := hide rs2
  have K_x := hide kx
  replace HB := hide hb4
  replace K_r := hide kr
  clear sl2 rs2 kx hb4 kr
  have x0 := (Blk.cell K_x.out 0).trans (rfl : _ = some (Value.int .i64 (c.st.mode : Int)))
  have x1 := (Blk.cell K_x.out 1).trans (rfl : _ = some (Value.int .i64 (c.st.run : Int)))
  have x2 := (Blk.cell K_x.out 2).trans (rfl : _ = some (Value.slice A N cc))
  have x3 := (Blk.cell K_x.out 3).trans (rfl : _ = some (Value.int .i64 (c.st.rej : Int)))
  have r0 := (Blk.cell K_r.out 0).trans (rfl : _ = some (Value.int .i64 0))
  have rf0 := Blk.frozen K_r.out 0
  have r1 := (Blk.cell K_r.out 1).trans (rfl : _ = some (Value.int .i64 0))
  have rf1 := Blk.frozen K_r.out 1
  have r2 := (Blk.cell K_r.out 2).trans (rfl : _ = some (Value.slice none 0 0))
  have rf2 := Blk.frozen K_r.out 2
  have r3 := (Blk.cell K_r.out 3).trans (rfl : _ = some (Value.int .i64 0))
  have rf3 := Blk.frozen K_r.out 3
  go_wp2_with fail
  have rc0 := (Blk.cell ((((K_r.out.set_ 0 (.int .i64 (c.st.mode : Int))).set_ 1 (.int .i64 (c.st.run : Int))).set_ 2 (.slice A N cc)).set_ 3 (.int .i64 (c.st.rej : Int))) 0).trans (rfl : _ = some (Value.int .i64 (c.st.mode : Int)))
  have rc1 := (Blk.cell ((((K_r.out.set_ 0 (.int .i64 (c.st.mode : Int))).set_ 1 (.int .i64 (c.st.run : Int))).set_ 2 (.slice A N cc)).set_ 3 (.int .i64 (c.st.rej : Int))) 1).trans (rfl : _ = some (Value.int .i64 (c.st.run : Int)))
  have rc2 := (Blk.cell ((((K_r.out.set_ 0 (.int .i64 (c.st.mode : Int))).set_ 1 (.int .i64 (c.st.run : Int))).set_ 2 (.slice A N cc)).set_ 3 (.int .i64 (c.st.rej : Int))) 2).trans (rfl : _ = some (Value.slice A N cc))
  have rc3 := (Blk.cell ((((K_r.out.set_ 0 (.int .i64 (c.st.mode : Int))).set_ 1 (.int .i64 (c.st.run : Int))).set_ 2 (.slice A N cc)).set_ 3 (.int .i64 (c.st.rej : Int))) 3).trans (rfl : _ = some (Value.int .i64 (c.st.rej : Int)))
  exact bodyPost_ret (v := .tuple #[.agg #[.int .i64 (c.st.mode : Int), .int .i64 (c.st.run : Int), .slice A N cc, .int .i64 (c.st.rej : Int)], .slice A2 N2 c2, .int .i64 0, .int .i64 0]) (by simp [results, Tryz.results27, go_sem, rc0, rc1, rc2, rc3]) rfl ⟨⟨_, _, rfl, ⟨_, rfl, HSL2.out.own K_r.out zs_nobool (only_setCell (only_setCell (only_setCell (only_setCell (only_refl _ (some ((w.heap.size + 1)))) (p := ⟨(w.heap.size + 1), 0, none⟩) (Or.inl rfl) (.int .i64 (c.st.mode : Int))) (p := ⟨(w.heap.size + 1), 1, none⟩) (Or.inl rfl) (.int .i64 (c.st.run : Int))) (p := ⟨(w.heap.size + 1), 2, none⟩) (Or.inl rfl) (.slice A N cc)) (p := ⟨(w.heap.size + 1), 3, none⟩) (Or.inl rfl) (.int .i64 (c.st.rej : Int)))⟩, HRS2.out.own K_r.out zs_nobool (only_setCell (only_setCell (only_setCell (only_setCell (only_refl _ (some ((w.heap.size + 1)))) (p := ⟨(w.heap.size + 1), 0, none⟩) (Or.inl rfl) (.int .i64 (c.st.mode : Int))) (p := ⟨(w.heap.size + 1), 1, none⟩) (Or.inl rfl) (.int .i64 (c.st.run : Int))) (p := ⟨(w.heap.size + 1), 2, none⟩) (Or.inl rfl) (.slice A N cc)) (p := ⟨(w.heap.size + 1), 3, none⟩) (Or.inl rfl) (.int .i64 (c.st.rej : Int)))⟩, ((((HB.out.setCell (p := ⟨(w.heap.size + 1), 0, none⟩) (by show w.heap.size ≤ (w.heap.size + 1); omega) (.int .i64 (c.st.mode : Int))).setCell (p := ⟨(w.heap.size + 1), 1, none⟩) (by show w.heap.size ≤ (w.heap.size + 1); omega) (.int .i64 (c.st.run : Int))).setCell (p := ⟨(w.heap.size + 1), 2, none⟩) (by show w.heap.size ≤ (w.heap.size + 1); omega) (.slice A N cc)).setCell (p := ⟨(w.heap.size + 1), 3, none⟩) (by show w.heap.size ≤ (w.heap.size + 1); omega) (.int .i64 (c.st.rej : Int)))⟩
end Go.Proofs.YthmmgjieppknkaaGreatDoor
