/- Contracts and plain laws that the statements of this seat share (part Erad). -/
import Derived.Test.YthmmgjieppknkaaGreatDoorEraa
import Derived.Test.YthmmgjieppknkaaGreatDoorErab
import Derived.Test.YthmmgjieppknkaaGreatDoorErac
import Derived.Test.YthmmgjieppknkaaGreatDoorKaa
import Derived.Test.YthmmgjieppknkaaGreatDoorKab
import Derived.Test.YthmmgjieppknkaaGreatDoorKac
import Derived.Test.YthmmgjieppknkaaGreatDoorKad
import Derived.Test.YthmmgjieppknkaaGreatDoorKag
import Derived.Test.YthmmgjieppknkaaGreatDoorKai
import Derived.Test.YthmmgjieppknkaaGreatDoorKak
import Derived.Test.YthmmgjieppknkaaGreatDoorKal
import Derived.Test.YthmmgjieppknkaaGreatDoorKam
import Derived.Test.YthmmgjieppknkaaGreatDoorKas
import Derived.Test.YthmmgjieppknkaaGreatDoorKat
import Derived.Test.YthmmgjieppknkaaGreatDoorKau
import Derived.Deep.AppendLies
import Derived.Lib.Builder
import Derived.Lib.AppendStr
import Derived.Laws.Externs
import Derived.WalkSmall
import Derived.Lib.AtoiErrMem
import Derived.Shelf.Strings.SlTrimAscii
import Derived.Shelf.Strings.Builder1
import Derived.Shelf.Strings.Trim
import Derived.Shelf.Small.Utf8
import Derived.Shelf.Small.Strs
import Derived.Shelf.Strings.BuilderF
import Derived.Shelf.Strings.BuilderK
import Derived.Shelf.Strconv.Atoi
import Derived.Shelf.Strconv.Itoa0
import Derived.Shelf.Strconv.Itoa1
import Derived.Shelf.LaysM
import Derived.Shelf.Strconv.Itoa2
import Derived.Shelf.Strconv.Itoa3
import Derived.Shelf.Strings.Search1
import Derived.Shelf.Strings.Search2
import Derived.Shelf.Strings.Cut
import Derived.Shelf.Strings.Shaped
import Derived.Shelf.Strings.Prefix
import Derived.Shelf.Strings.Runes
import Derived.Shelf.Strings.AsciiSet
import Derived.Shelf.Bits.Mul64
import Derived.Shelf.Unicode.DecodeSlow
import Derived.Test.YthmmgjieppknkaaGreatDoorProg
import Derived.Test.YthmmgjieppknkaaGreatDoorChecked
import Derived.WalkKit
import Derived.WalkSpells
import Derived.WalkLawsBesides
import Derived.Lib.Hide
import Derived.IntWalk
import Derived.BigQuiet
import Derived.Deep.QuietTactic
import Derived.Deep.LoopGhost
import Derived.Deep.DeepCutAuto
import Derived.Deep.DeepFit
import Derived.Deep.Light
import Derived.Outline
import Derived.Laws.Rows
import Derived.Laws.NewBlocks
import Derived.Laws.CopyOwn
import Derived.Laws.Tables
import Derived.Lib.ItoaNum
import Derived.Lib.ItoaLen
import Derived.Lib.Atoi
import Derived.Lib.AtoiAll
import Derived.Lib.Strings
import Derived.Lib.SlTrimSet
import Derived.DeepKeys4
import Derived.Maps.RangeWalk
import Derived.Deep.RegionWith
import Derived.Deep.RegionLaw
import Derived.RegionTactic
import Derived.ProofKit
import Derived.Lib.IndexMore
import Derived.Lib.IndexBytes
import Derived.Lib.IndexLaws
namespace Go.Proofs.YthmmgjieppknkaaGreatDoor
open Go.RowKit MLab
theorem rrules_at {S : Nat → Int × Int} {w : World} : ∀ (W : World), Blk W w.heap.size 43 #[.int .i64 (S 0).1, .int .i64 (S 0).2, .int .i64 (S 1).1, .int .i64 (S 1).2, .int .i64 (S 2).1, .int .i64 (S 2).2] → ∀ m, m < 3 → W.cell? ⟨w.heap.size, m * 2, none⟩ = some (.int .i64 (S m).1) := fun W K m hm => by
  rcases (by omega : m = 0 ∨ m = 1 ∨ m = 2) with rfl | rfl | rfl
  · exact (Blk.cell K 0).trans rfl
  · exact (Blk.cell K 2).trans rfl
  · exact (Blk.cell K 4).trans rfl
theorem bel_set4W {B : Nat} {w x : World} (h : Below B w x) (b : Nat) (hB : B ≤ b) (a c d e : Value) : Below B w ((((x.setCell ⟨b, 0, none⟩ a).setCell ⟨b, 1, none⟩ c).setCell ⟨b, 2, none⟩ d).setCell ⟨b, 3, none⟩ e) := (((h.setCell (p := ⟨b, 0, none⟩) hB a).setCell (p := ⟨b, 1, none⟩) hB c).setCell (p := ⟨b, 2, none⟩) hB d).setCell (p := ⟨b, 3, none⟩) hB e
theorem bel_alW2 {w x : World} (h : Below w.heap.size w x) (o : Obj) : Below w.heap.size w (x.alloc o) := h.alloc h.size o
theorem nobool6 (a b d e : Int) (A : Option Addr) (N c : Nat) (A2 : Option Addr) (N2 c2 : Nat) (i : Nat) (x : Bool) : (#[Value.int .i64 a, .int .i64 b, .slice A N c, .int .i64 d, .slice A2 N2 c2, .int .i64 e] : Array Value)[i]? ≠ some (.bool x) := by
  match i with
  | 0 => simp
  | 1 => simp
  | 2 => simp
  | 3 => simp
  | 4 => simp
  | 5 => simp
  | n + 6 => simp
set_option maxRecDepth 100000 in
set_option maxHeartbeats 2000000 in
theorem went_bad (w : World) (S : Nat → Int × Int) (v : Value) (h : ckS S ≠ 0) :
    Calls Tryz.prog 61 #[schV S, v] w fun e w' => e = .returned (.tuple #[.agg #[.int .i64 0, .int .i64 0, .slice none 0 0, .int .i64 0, .slice none 0 0, .int .i64 0], .int .i64 0, .int .i64 2]) ∧ Below w.heap.size w w' := by
  have HC := hide (fun (W : World) => rswck_any W S)
  unfold schV at HC ⊢
  rw [ckS_two h] at HC
  clear h
  have HB := allocs_below w [.cells #[.int .i64 (S 0).1, .int .i64 (S 0).2, .int .i64 (S 1).1, .int .i64 (S 1).2, .int .i64 (S 2).1, .int .i64 (S 2).2] 43, .cells #[.int .i64 0, .int .i64 0, .slice none 0 0, .int .i64 0, .slice none 0 0, .int .i64 0] 113, .cells #[.int .i64 0, .int .i64 0, .slice none 0 0, .int .i64 0, .slice none 0 0, .int .i64 0] 113]
  have K_s : Blk (allocs w [.cells #[.int .i64 (S 0).1, .int .i64 (S 0).2, .int .i64 (S 1).1, .int .i64 (S 1).2, .int .i64 (S 2).1, .int .i64 (S 2).2] 43, .cells #[.int .i64 0, .int .i64 0, .slice none 0 0, .int .i64 0, .slice none 0 0, .int .i64 0] 113, .cells #[.int .i64 0, .int .i64 0, .slice none 0 0, .int .i64 0, .slice none 0 0, .int .i64 0] 113]) (w.heap.size + 0) 43 #[.int .i64 (S 0).1, .int .i64 (S 0).2, .int .i64 (S 1).1, .int .i64 (S 1).2, .int .i64 (S 2).1, .int .i64 (S 2).2] := allocs_at w [.cells #[.int .i64 (S 0).1, .int .i64 (S 0).2, .int .i64 (S 1).1, .int .i64 (S 1).2, .int .i64 (S 2).1, .int .i64 (S 2).2] 43, .cells #[.int .i64 0, .int .i64 0, .slice none 0 0, .int .i64 0, .slice none 0 0, .int .i64 0] 113, .cells #[.int .i64 0, .int .i64 0, .slice none 0 0, .int .i64 0, .slice none 0 0, .int .i64 0] 113] 0 rfl
  have K_r : Blk (allocs w [.cells #[.int .i64 (S 0).1, .int .i64 (S 0).2, .int .i64 (S 1).1, .int .i64 (S 1).2, .int .i64 (S 2).1, .int .i64 (S 2).2] 43, .cells #[.int .i64 0, .int .i64 0, .slice none 0 0, .int .i64 0, .slice none 0 0, .int .i64 0] 113, .cells #[.int .i64 0, .int .i64 0, .slice none 0 0, .int .i64 0, .slice none 0 0, .int .i64 0] 113]) (w.heap.size + 1) 113 #[.int .i64 0, .int .i64 0, .slice none 0 0, .int .i64 0, .slice none 0 0, .int .i64 0] := allocs_at w [.cells #[.int .i64 (S 0).1, .int .i64 (S 0).2, .int .i64 (S 1).1, .int .i64 (S 1).2, .int .i64 (S 2).1, .int .i64 (S 2).2] 43, .cells #[.int .i64 0, .int .i64 0, .slice none 0 0, .int .i64 0, .slice none 0 0, .int .i64 0] 113, .cells #[.int .i64 0, .int .i64 0, .slice none 0 0, .int .i64 0, .slice none 0 0, .int .i64 0] 113] 1 rfl
  have K_x : Blk (allocs w [.cells #[.int .i64 (S 0).1, .int .i64 (S 0).2, .int .i64 (S 1).1, .int .i64 (S 1).2, .int .i64 (S 2).1, .int .i64 (S 2).2] 43, .cells #[.int .i64 0, .int .i64 0, .slice none 0 0, .int .i64 0, .slice none 0 0, .int .i64 0] 113, .cells #[.int .i64 0, .int .i64 0, .slice none 0 0, .int .i64 0, .slice none 0 0, .int .i64 0] 113]) (w.heap.size + 2) 113 #[.int .i64 0, .int .i64 0, .slice none 0 0, .int .i64 0, .slice none 0 0, .int .i64 0] := allocs_at w [.cells #[.int .i64 (S 0).1, .int .i64 (S 0).2, .int .i64 (S 1).1, .int .i64 (S 1).2, .int .i64 (S 2).1, .int .i64 (S 2).2] 43, .cells #[.int .i64 0, .int .i64 0, .slice none 0 0, .int .i64 0, .slice none 0 0, .int .i64 0] 113, .cells #[.int .i64 0, .int .i64 0, .slice none 0 0, .int .i64 0, .slice none 0 0, .int .i64 0] 113] 2 rfl
  unfold allocs at HB K_s K_r K_x
  simp only [List.foldl_cons, List.foldl_nil] at HB K_s K_r K_x
  rw [Nat.add_zero] at K_s
  go_enter Tryz.func61, Tryz.ntmps61
  go_upto_region 2 with (fail)
  generalize (((w.alloc (.cells #[.int .i64 (S 0).1, .int .i64 (S 0).2, .int .i64 (S 1).1, .int .i64 (S 1).2, .int .i64 (S 2).1, .int .i64 (S 2).2] 43)).alloc (.cells #[.int .i64 0, .int .i64 0, .slice none 0 0, .int .i64 0, .slice none 0 0, .int .i64 0] 113)).alloc (.cells #[.int .i64 0, .int .i64 0, .slice none 0 0, .int .i64 0, .slice none 0 0, .int .i64 0] 113)) = w0 at *
  replace K_s := hide K_s
  replace K_r := hide K_r
  replace K_x := hide K_x
  replace HB := hide HB
  have s0 := (Blk.cell K_s.out 0).trans (rfl : _ = some (Value.int .i64 (S 0).1))
  have s1 := (Blk.cell K_s.out 1).trans (rfl : _ = some (Value.int .i64 (S 0).2))
  have s2 := (Blk.cell K_s.out 2).trans (rfl : _ = some (Value.int .i64 (S 1).1))
  have s3 := (Blk.cell K_s.out 3).trans (rfl : _ = some (Value.int .i64 (S 1).2))
  have s4 := (Blk.cell K_s.out 4).trans (rfl : _ = some (Value.int .i64 (S 2).1))
  have s5 := (Blk.cell K_s.out 5).trans (rfl : _ = some (Value.int .i64 (S 2).2))
  go_wp2_with fail
  refine (HC.out _).mono ?_
  rintro e w1 ⟨rfl, hb⟩
  clear s0 s1 s2 s3 s4 s5
  replace K_s := hide (Blk.below K_s.out hb (Blk.lt K_s.out))
  replace K_r := hide (Blk.below K_r.out hb (Blk.lt K_r.out))
  replace K_x := hide (Blk.below K_x.out hb (Blk.lt K_x.out))
  replace HB := hide (HB.out.trans (hb.mono HB.out.size))
  clear hb
  have x0 := (Blk.cell K_x.out 0).trans (rfl : _ = some (Value.int .i64 0))
  have x1 := (Blk.cell K_x.out 1).trans (rfl : _ = some (Value.int .i64 0))
  have x2 := (Blk.cell K_x.out 2).trans (rfl : _ = some (Value.slice none 0 0))
  have x3 := (Blk.cell K_x.out 3).trans (rfl : _ = some (Value.int .i64 0))
  have x4 := (Blk.cell K_x.out 4).trans (rfl : _ = some (Value.slice none 0 0))
  have x5 := (Blk.cell K_x.out 5).trans (rfl : _ = some (Value.int .i64 0))
  have r0 := (Blk.cell K_r.out 0).trans (rfl : _ = some (Value.int .i64 0))
  have rf0 := Blk.frozen K_r.out 0
  have r1 := (Blk.cell K_r.out 1).trans (rfl : _ = some (Value.int .i64 0))
  have rf1 := Blk.frozen K_r.out 1
  have r2 := (Blk.cell K_r.out 2).trans (rfl : _ = some (Value.slice none 0 0))
  have rf2 := Blk.frozen K_r.out 2
  have r3 := (Blk.cell K_r.out 3).trans (rfl : _ = some (Value.int .i64 0))
  have rf3 := Blk.frozen K_r.out 3
  have r4 := (Blk.cell K_r.out 4).trans (rfl : _ = some (Value.slice none 0 0))
  have rf4 := Blk.frozen K_r.out 4
  have r5 := (Blk.cell K_r.out 5).trans (rfl : _ = some (Value.int .i64 0))
  have rf5 := Blk.frozen K_r.out 5
  go_wp2_with fail
  have rc0 := (Blk.cell ((((((K_r.out.set_ 0 (.int .i64 0)).set_ 1 (.int .i64 0)).set_ 2 (.slice none 0 0)).set_ 3 (.int .i64 0)).set_ 4 (.slice none 0 0)).set_ 5 (.int .i64 0)) 0).trans (rfl : _ = some (Value.int .i64 0))
  have rc1 := (Blk.cell ((((((K_r.out.set_ 0 (.int .i64 0)).set_ 1 (.int .i64 0)).set_ 2 (.slice none 0 0)).set_ 3 (.int .i64 0)).set_ 4 (.slice none 0 0)).set_ 5 (.int .i64 0)) 1).trans (rfl : _ = some (Value.int .i64 0))
  have rc2 := (Blk.cell ((((((K_r.out.set_ 0 (.int .i64 0)).set_ 1 (.int .i64 0)).set_ 2 (.slice none 0 0)).set_ 3 (.int .i64 0)).set_ 4 (.slice none 0 0)).set_ 5 (.int .i64 0)) 2).trans (rfl : _ = some (Value.slice none 0 0))
  have rc3 := (Blk.cell ((((((K_r.out.set_ 0 (.int .i64 0)).set_ 1 (.int .i64 0)).set_ 2 (.slice none 0 0)).set_ 3 (.int .i64 0)).set_ 4 (.slice none 0 0)).set_ 5 (.int .i64 0)) 3).trans (rfl : _ = some (Value.int .i64 0))
  have rc4 := (Blk.cell ((((((K_r.out.set_ 0 (.int .i64 0)).set_ 1 (.int .i64 0)).set_ 2 (.slice none 0 0)).set_ 3 (.int .i64 0)).set_ 4 (.slice none 0 0)).set_ 5 (.int .i64 0)) 4).trans (rfl : _ = some (Value.slice none 0 0))
  have rc5 := (Blk.cell ((((((K_r.out.set_ 0 (.int .i64 0)).set_ 1 (.int .i64 0)).set_ 2 (.slice none 0 0)).set_ 3 (.int .i64 0)).set_ 4 (.slice none 0 0)).set_ 5 (.int .i64 0)) 5).trans (rfl : _ = some (Value.int .i64 0))
  exact bodyPost_ret (v := .tuple #[.agg #[.int .i64 0, .int .i64 0, .slice none 0 0, .int .i64 0, .slice none 0 0, .int .i64 0], .int .i64 0, .int .i64 2]) (by simp [results, Tryz.results61, go_sem, rc0, rc1, rc2, rc3, rc4, rc5]) rfl ⟨rfl, ((((((HB.out.setCell (p := ⟨(w.heap.size + 1), 0, none⟩) (by show w.heap.size ≤ (w.heap.size + 1); omega) (.int .i64 0)).setCell (p := ⟨(w.heap.size + 1), 1, none⟩) (by show w.heap.size ≤ (w.heap.size + 1); omega) (.int .i64 0)).setCell (p := ⟨(w.heap.size + 1), 2, none⟩) (by show w.heap.size ≤ (w.heap.size + 1); omega) (.slice none 0 0)).setCell (p := ⟨(w.heap.size + 1), 3, none⟩) (by show w.heap.size ≤ (w.heap.size + 1); omega) (.int .i64 0)).setCell (p := ⟨(w.heap.size + 1), 4, none⟩) (by show w.heap.size ≤ (w.heap.size + 1); omega) (.slice none 0 0)).setCell (p := ⟨(w.heap.size + 1), 5, none⟩) (by show w.heap.size ≤ (w.heap.size + 1); omega) (.int .i64 0))⟩
set_option maxRecDepth 100000 in
set_option maxHeartbeats 2000000 in
theorem went_many (w : World) (S : Nat → Int × Int) (A : Option Addr) (len cap : Nat) (h : ckS S = 0) (hl : 4096 < len) :
    Calls Tryz.prog 61 #[schV S, .slice A len cap] w fun e w' => e = .returned (.tuple #[.agg #[.int .i64 0, .int .i64 0, .slice none 0 0, .int .i64 0, .slice none 0 0, .int .i64 0], .int .i64 0, .int .i64 5]) ∧ Below w.heap.size w w' := by
  have HC := hide (fun (W : World) => rswck_any W S)
  unfold schV at HC ⊢
  rw [h] at HC
  have hli : (4096 : Int) < (len : Int) := by omega
  have hlm : 4096 < len := by omega
  clear h
  have HB := allocs_below w [.cells #[.int .i64 (S 0).1, .int .i64 (S 0).2, .int .i64 (S 1).1, .int .i64 (S 1).2, .int .i64 (S 2).1, .int .i64 (S 2).2] 43, .cells #[.int .i64 0, .int .i64 0, .slice none 0 0, .int .i64 0, .slice none 0 0, .int .i64 0] 113, .cells #[.int .i64 0, .int .i64 0, .slice none 0 0, .int .i64 0, .slice none 0 0, .int .i64 0] 113]
  have K_s : Blk (allocs w [.cells #[.int .i64 (S 0).1, .int .i64 (S 0).2, .int .i64 (S 1).1, .int .i64 (S 1).2, .int .i64 (S 2).1, .int .i64 (S 2).2] 43, .cells #[.int .i64 0, .int .i64 0, .slice none 0 0, .int .i64 0, .slice none 0 0, .int .i64 0] 113, .cells #[.int .i64 0, .int .i64 0, .slice none 0 0, .int .i64 0, .slice none 0 0, .int .i64 0] 113]) (w.heap.size + 0) 43 #[.int .i64 (S 0).1, .int .i64 (S 0).2, .int .i64 (S 1).1, .int .i64 (S 1).2, .int .i64 (S 2).1, .int .i64 (S 2).2] := allocs_at w [.cells #[.int .i64 (S 0).1, .int .i64 (S 0).2, .int .i64 (S 1).1, .int .i64 (S 1).2, .int .i64 (S 2).1, .int .i64 (S 2).2] 43, .cells #[.int .i64 0, .int .i64 0, .slice none 0 0, .int .i64 0, .slice none 0 0, .int .i64 0] 113, .cells #[.int .i64 0, .int .i64 0, .slice none 0 0, .int .i64 0, .slice none 0 0, .int .i64 0] 113] 0 rfl
  have K_r : Blk (allocs w [.cells #[.int .i64 (S 0).1, .int .i64 (S 0).2, .int .i64 (S 1).1, .int .i64 (S 1).2, .int .i64 (S 2).1, .int .i64 (S 2).2] 43, .cells #[.int .i64 0, .int .i64 0, .slice none 0 0, .int .i64 0, .slice none 0 0, .int .i64 0] 113, .cells #[.int .i64 0, .int .i64 0, .slice none 0 0, .int .i64 0, .slice none 0 0, .int .i64 0] 113]) (w.heap.size + 1) 113 #[.int .i64 0, .int .i64 0, .slice none 0 0, .int .i64 0, .slice none 0 0, .int .i64 0] := allocs_at w [.cells #[.int .i64 (S 0).1, .int .i64 (S 0).2, .int .i64 (S 1).1, .int .i64 (S 1).2, .int .i64 (S 2).1, .int .i64 (S 2).2] 43, .cells #[.int .i64 0, .int .i64 0, .slice none 0 0, .int .i64 0, .slice none 0 0, .int .i64 0] 113, .cells #[.int .i64 0, .int .i64 0, .slice none 0 0, .int .i64 0, .slice none 0 0, .int .i64 0] 113] 1 rfl
  have K_x : Blk (allocs w [.cells #[.int .i64 (S 0).1, .int .i64 (S 0).2, .int .i64 (S 1).1, .int .i64 (S 1).2, .int .i64 (S 2).1, .int .i64 (S 2).2] 43, .cells #[.int .i64 0, .int .i64 0, .slice none 0 0, .int .i64 0, .slice none 0 0, .int .i64 0] 113, .cells #[.int .i64 0, .int .i64 0, .slice none 0 0, .int .i64 0, .slice none 0 0, .int .i64 0] 113]) (w.heap.size + 2) 113 #[.int .i64 0, .int .i64 0, .slice none 0 0, .int .i64 0, .slice none 0 0, .int .i64 0] := allocs_at w [.cells #[.int .i64 (S 0).1, .int .i64 (S 0).2, .int .i64 (S 1).1, .int .i64 (S 1).2, .int .i64 (S 2).1, .int .i64 (S 2).2] 43, .cells #[.int .i64 0, .int .i64 0, .slice none 0 0, .int .i64 0, .slice none 0 0, .int .i64 0] 113, .cells #[.int .i64 0, .int .i64 0, .slice none 0 0, .int .i64 0, .slice none 0 0, .int .i64 0] 113] 2 rfl
  unfold allocs at HB K_s K_r K_x
  simp only [List.foldl_cons, List.foldl_nil] at HB K_s K_r K_x
  rw [Nat.add_zero] at K_s
  go_enter Tryz.func61, Tryz.ntmps61
  go_upto_region 2 with (fail)
  generalize (((w.alloc (.cells #[.int .i64 (S 0).1, .int .i64 (S 0).2, .int .i64 (S 1).1, .int .i64 (S 1).2, .int .i64 (S 2).1, .int .i64 (S 2).2] 43)).alloc (.cells #[.int .i64 0, .int .i64 0, .slice none 0 0, .int .i64 0, .slice none 0 0, .int .i64 0] 113)).alloc (.cells #[.int .i64 0, .int .i64 0, .slice none 0 0, .int .i64 0, .slice none 0 0, .int .i64 0] 113)) = w0 at *
  replace K_s := hide K_s
  replace K_r := hide K_r
  replace K_x := hide K_x
  replace HB := hide HB
  have s0 := (Blk.cell K_s.out 0).trans (rfl : _ = some (Value.int .i64 (S 0).1))
  have s1 := (Blk.cell K_s.out 1).trans (rfl : _ = some (Value.int .i64 (S 0).2))
  have s2 := (Blk.cell K_s.out 2).trans (rfl : _ = some (Value.int .i64 (S 1).1))
  have s3 := (Blk.cell K_s.out 3).trans (rfl : _ = some (Value.int .i64 (S 1).2))
  have s4 := (Blk.cell K_s.out 4).trans (rfl : _ = some (Value.int .i64 (S 2).1))
  have s5 := (Blk.cell K_s.out 5).trans (rfl : _ = some (Value.int .i64 (S 2).2))
  go_wp2_with fail
  refine (HC.out _).mono ?_
  rintro e w1 ⟨rfl, hb⟩
  clear s0 s1 s2 s3 s4 s5
  replace K_s := hide (Blk.below K_s.out hb (Blk.lt K_s.out))
  replace K_r := hide (Blk.below K_r.out hb (Blk.lt K_r.out))
  replace K_x := hide (Blk.below K_x.out hb (Blk.lt K_x.out))
  replace HB := hide (HB.out.trans (hb.mono HB.out.size))
  clear hb
  have x0 := (Blk.cell K_x.out 0).trans (rfl : _ = some (Value.int .i64 0))
  have x1 := (Blk.cell K_x.out 1).trans (rfl : _ = some (Value.int .i64 0))
  have x2 := (Blk.cell K_x.out 2).trans (rfl : _ = some (Value.slice none 0 0))
  have x3 := (Blk.cell K_x.out 3).trans (rfl : _ = some (Value.int .i64 0))
  have x4 := (Blk.cell K_x.out 4).trans (rfl : _ = some (Value.slice none 0 0))
  have x5 := (Blk.cell K_x.out 5).trans (rfl : _ = some (Value.int .i64 0))
  have r0 := (Blk.cell K_r.out 0).trans (rfl : _ = some (Value.int .i64 0))
  have rf0 := Blk.frozen K_r.out 0
  have r1 := (Blk.cell K_r.out 1).trans (rfl : _ = some (Value.int .i64 0))
  have rf1 := Blk.frozen K_r.out 1
  have r2 := (Blk.cell K_r.out 2).trans (rfl : _ = some (Value.slice none 0 0))
  have rf2 := Blk.frozen K_r.out 2
  have r3 := (Blk.cell K_r.out 3).trans (rfl : _ = some (Value.int .i64 0))
  have rf3 := Blk.frozen K_r.out 3
  have r4 := (Blk.cell K_r.out 4).trans (rfl : _ = some (Value.slice none 0 0))
  have rf4 := Blk.frozen K_r.out 4
  have r5 := (Blk.cell K_r.out 5).trans (rfl : _ = some (Value.int .i64 0))
  have rf5 := Blk.frozen K_r.out 5
  go_wp2_with fail
  have rc0 := (Blk.cell ((((((K_r.out.set_ 0 (.int .i64 0)).set_ 1 (.int .i64 0)).set_ 2 (.slice none 0 0)).set_ 3 (.int .i64 0)).set_ 4 (.slice none 0 0)).set_ 5 (.int .i64 0)) 0).trans (rfl : _ = some (Value.int .i64 0))
  have rc1 := (Blk.cell ((((((K_r.out.set_ 0 (.int .i64 0)).set_ 1 (.int .i64 0)).set_ 2 (.slice none 0 0)).set_ 3 (.int .i64 0)).set_ 4 (.slice none 0 0)).set_ 5 (.int .i64 0)) 1).trans (rfl : _ = some (Value.int .i64 0))
  have rc2 := (Blk.cell ((((((K_r.out.set_ 0 (.int .i64 0)).set_ 1 (.int .i64 0)).set_ 2 (.slice none 0 0)).set_ 3 (.int .i64 0)).set_ 4 (.slice none 0 0)).set_ 5 (.int .i64 0)) 2).trans (rfl : _ = some (Value.slice none 0 0))
  have rc3 := (Blk.cell ((((((K_r.out.set_ 0 (.int .i64 0)).set_ 1 (.int .i64 0)).set_ 2 (.slice none 0 0)).set_ 3 (.int .i64 0)).set_ 4 (.slice none 0 0)).set_ 5 (.int .i64 0)) 3).trans (rfl : _ = some (Value.int .i64 0))
  have rc4 := (Blk.cell ((((((K_r.out.set_ 0 (.int .i64 0)).set_ 1 (.int .i64 0)).set_ 2 (.slice none 0 0)).set_ 3 (.int .i64 0)).set_ 4 (.slice none 0 0)).set_ 5 (.int .i64 0)) 4).trans (rfl : _ = some (Value.slice none 0 0))
  have rc5 := (Blk.cell ((((((K_r.out.set_ 0 (.int .i64 0)).set_ 1 (.int .i64 0)).set_ 2 (.slice none 0 0)).set_ 3 (.int .i64 0)).set_ 4 (.slice none 0 0)).set_ 5 (.int .i64 0)) 5).trans (rfl : _ = some (Value.int .i64 0))
  exact bodyPost_ret (v := .tuple #[.agg #[.int .i64 0, .int .i64 0, .slice none 0 0, .int .i64 0, .slice none 0 0, .int .i64 0], .int .i64 0, .int .i64 5]) (by simp [results, Tryz.results61, go_sem, rc0, rc1, rc2, rc3, rc4, rc5]) rfl ⟨rfl, ((((((HB.out.setCell (p := ⟨(w.heap.size + 1), 0, none⟩) (by show w.heap.size ≤ (w.heap.size + 1); omega) (.int .i64 0)).setCell (p := ⟨(w.heap.size + 1), 1, none⟩) (by show w.heap.size ≤ (w.heap.size + 1); omega) (.int .i64 0)).setCell (p := ⟨(w.heap.size + 1), 2, none⟩) (by show w.heap.size ≤ (w.heap.size + 1); omega) (.slice none 0 0)).setCell (p := ⟨(w.heap.size + 1), 3, none⟩) (by show w.heap.size ≤ (w.heap.size + 1); omega) (.int .i64 0)).setCell (p := ⟨(w.heap.size + 1), 4, none⟩) (by show w.heap.size ≤ (w.heap.size + 1); omega) (.slice none 0 0)).setCell (p := ⟨(w.heap.size + 1), 5, none⟩) (by show w.heap.size ≤ (w.heap.size + 1); omega) (.int .i64 0))⟩
set_option maxRecDepth 100000 in
set_option maxHeartbeats 8000000 in
theorem went_any (w : World) (S : Nat → Int × Int) (v : Value) (L : List Int) (hv : SlL w v (zcl L)) (hS : ckS S = 0) (hL : L.length ≤ 4096) :
    Calls Tryz.prog 61 #[schV S, v] w (WentP w (goC (ruN S) L 0 cr0)) := by
  obtain ⟨i0, hi, hz0, hz1, hz2⟩ := info_parts info_bool
  obtain ⟨AL, cL, rfl, -, hc⟩ := hv
  rw [zcl_len] at hc ⊢
  have HC := hide (fun (W : World) => rswck_any W S)
  rw [hS] at HC
  have HSS := hide hS
  have HLC := hide hc
  obtain ⟨n, hn⟩ : ∃ n, L.length = n := ⟨_, rfl⟩
  rw [hn] at HLC hL ⊢
  have HN := hide hn
  have hLi : ¬ (4096 : Int) < (n : Int) := by omega
  have HRB := hide (fun (W : World) (mode run rej z : Int) (v : Value) (l : List Bool) hv hl hz h => rswrst_bad W mode run rej z v l hv hl hz h)
  have HRO := hide (fun (W : World) (run rej : Int) (v : Value) (l : List Bool) hv hl h => rswrst_ok W run rej v l hv hl h)
  have HNB := hide (fun (W : World) (mode run rej found z : Int) (v : Value) (l : List Bool) hv hl hz h => rswnext_bad W S mode run rej found z v l hv hl hz h)
  have HNO := hide (fun (W : World) (x : Sw) (found : Int) (v : Value) hv hx h3 h0 hf => rswnext_ok W S x found v hv hS hx h3 h0 hf)
  unfold schV at HC HNB HNO ⊢
  clear hS hc hn
  have HB := allocs_below w [.cells #[.int .i64 (S 0).1, .int .i64 (S 0).2, .int .i64 (S 1).1, .int .i64 (S 1).2, .int .i64 (S 2).1, .int .i64 (S 2).2] 43, .cells #[.int .i64 0, .int .i64 0, .slice none 0 0, .int .i64 0, .slice none 0 0, .int .i64 0] 113, .cells #[.int .i64 0, .int .i64 0, .slice none 0 0, .int .i64 0, .slice none 0 0, .int .i64 0] 113]
  have K_s : Blk (allocs w [.cells #[.int .i64 (S 0).1, .int .i64 (S 0).2, .int .i64 (S 1).1, .int .i64 (S 1).2, .int .i64 (S 2).1, .int .i64 (S 2).2] 43, .cells #[.int .i64 0, .int .i64 0, .slice none 0 0, .int .i64 0, .slice none 0 0, .int .i64 0] 113, .cells #[.int .i64 0, .int .i64 0, .slice none 0 0, .int .i64 0, .slice none 0 0, .int .i64 0] 113]) (w.heap.size + 0) 43 #[.int .i64 (S 0).1, .int .i64 (S 0).2, .int .i64 (S 1).1, .int .i64 (S 1).2, .int .i64 (S 2).1, .int .i64 (S 2).2] := allocs_at w [.cells #[.int .i64 (S 0).1, .int .i64 (S 0).2, .int .i64 (S 1).1, .int .i64 (S 1).2, .int .i64 (S 2).1, .int .i64 (S 2).2] 43, .cells #[.int .i64 0, .int .i64 0, .slice none 0 0, .int .i64 0, .slice none 0 0, .int .i64 0] 113, .cells #[.int .i64 0, .int .i64 0, .slice none 0 0, .int .i64 0, .slice none 0 0, .int .i64 0] 113] 0 rfl
  have K_r : Blk (allocs w [.cells #[.int .i64 (S 0).1, .int .i64 (S 0).2, .int .i64 (S 1).1, .int .i64 (S 1).2, .int .i64 (S 2).1, .int .i64 (S 2).2] 43, .cells #[.int .i64 0, .int .i64 0, .slice none 0 0, .int .i64 0, .slice none 0 0, .int .i64 0] 113, .cells #[.int .i64 0, .int .i64 0, .slice none 0 0, .int .i64 0, .slice none 0 0, .int .i64 0] 113]) (w.heap.size + 1) 113 #[.int .i64 0, .int .i64 0, .slice none 0 0, .int .i64 0, .slice none 0 0, .int .i64 0] := allocs_at w [.cells #[.int .i64 (S 0).1, .int .i64 (S 0).2, .int .i64 (S 1).1, .int .i64 (S 1).2, .int .i64 (S 2).1, .int .i64 (S 2).2] 43, .cells #[.int .i64 0, .int .i64 0, .slice none 0 0, .int .i64 0, .slice none 0 0, .int .i64 0] 113, .cells #[.int .i64 0, .int .i64 0, .slice none 0 0, .int .i64 0, .slice none 0 0, .int .i64 0] 113] 1 rfl
  have K_x : Blk (allocs w [.cells #[.int .i64 (S 0).1, .int .i64 (S 0).2, .int .i64 (S 1).1, .int .i64 (S 1).2, .int .i64 (S 2).1, .int .i64 (S 2).2] 43, .cells #[.int .i64 0, .int .i64 0, .slice none 0 0, .int .i64 0, .slice none 0 0, .int .i64 0] 113, .cells #[.int .i64 0, .int .i64 0, .slice none 0 0, .int .i64 0, .slice none 0 0, .int .i64 0] 113]) (w.heap.size + 2) 113 #[.int .i64 0, .int .i64 0, .slice none 0 0, .int .i64 0, .slice none 0 0, .int .i64 0] := allocs_at w [.cells #[.int .i64 (S 0).1, .int .i64 (S 0).2, .int .i64 (S 1).1, .int .i64 (S 1).2, .int .i64 (S 2).1, .int .i64 (S 2).2] 43, .cells #[.int .i64 0, .int .i64 0, .slice none 0 0, .int .i64 0, .slice none 0 0, .int .i64 0] 113, .cells #[.int .i64 0, .int .i64 0, .slice none 0 0, .int .i64 0, .slice none 0 0, .int .i64 0] 113] 2 rfl
  unfold allocs at HB K_s K_r K_x
  simp only [List.foldl_cons, List.foldl_nil] at HB K_s K_r K_x
  rw [Nat.add_zero] at K_s
  go_enter Tryz.func61, Tryz.ntmps61
  go_upto_region 2 with (fail)
  generalize (((w.alloc (.cells #[.int .i64 (S 0).1, .int .i64 (S 0).2, .int .i64 (S 1).1, .int .i64 (S 1).2, .int .i64 (S 2).1, .int .i64 (S 2).2] 43)).alloc (.cells #[.int .i64 0, .int .i64 0, .slice none 0 0, .int .i64 0, .slice none 0 0, .int .i64 0] 113)).alloc (.cells #[.int .i64 0, .int .i64 0, .slice none 0 0, .int .i64 0, .slice none 0 0, .int .i64 0] 113)) = w0 at *
  replace K_s := hide K_s
  replace K_r := hide K_r
  replace K_x := hide K_x
  replace HB := hide HB
  have s0 := (Blk.cell K_s.out 0).trans (rfl : _ = some (Value.int .i64 (S 0).1))
  have s1 := (Blk.cell K_s.out 1).trans (rfl : _ = some (Value.int .i64 (S 0).2))
  have s2 := (Blk.cell K_s.out 2).trans (rfl : _ = some (Value.int .i64 (S 1).1))
  have s3 := (Blk.cell K_s.out 3).trans (rfl : _ = some (Value.int .i64 (S 1).2))
  have s4 := (Blk.cell K_s.out 4).trans (rfl : _ = some (Value.int .i64 (S 2).1))
  have s5 := (Blk.cell K_s.out 5).trans (rfl : _ = some (Value.int .i64 (S 2).2))
  go_wp2_with fail
  refine (HC.out _).mono ?_
  rintro e w1 ⟨rfl, hb⟩
  clear s0 s1 s2 s3 s4 s5
  replace K_s := hide (Blk.below K_s.out hb (Blk.lt K_s.out))
  replace K_r := hide (Blk.below K_r.out hb (Blk.lt K_r.out))
  replace K_x := hide (Blk.below K_x.out hb (Blk.lt K_x.out))
  replace HB := hide (HB.out.trans (hb.mono HB.out.size))
  clear hb
  go_wp2_with fail
  go_loopg [9] n (fun z iv wr => ∃ (j : Nat) (x : Cr) (A : Option Addr) (N c : Nat) (A2 : Option Addr) (N2 c2 : Nat), iv = .int .i64 (j : Int) ∧ z + j = n ∧ goC (ruN S) L 0 cr0 = goC (ruN S) (L.drop j) j x ∧ RightS x.st ∧ x.res.length ≤ j ∧ x.eff ≤ j * 1048576 ∧ wr.ownsRow (w.heap.size + 3) 4 1 (.slice A2 N2 c2) x.res.length (bcl x.res) ∧ Blk wr (w.heap.size + 2) 113 #[.int .i64 (x.st.mode : Int), .int .i64 (x.st.run : Int), .slice A N c, .int .i64 (x.st.rej : Int), .slice A2 N2 c2, .int .i64 (x.eff : Int)] ∧ SlL wr (.slice A N c) (bcl x.st.last) ∧ ApartV (.slice A N c) (.slice A2 N2 c2) ∧ Blk wr (w.heap.size + 1) 113 #[.int .i64 0, .int .i64 0, .slice none 0 0, .int .i64 0, .slice none 0 0, .int .i64 0] ∧ Blk wr w.heap.size 43 #[.int .i64 (S 0).1, .int .i64 (S 0).2, .int .i64 (S 1).1, .int .i64 (S 1).2, .int .i64 (S 2).1, .int .i64 (S 2).2] ∧ Below w.heap.size w wr ∧ w.heap.size + 3 ≤ wr.heap.size)
  case atStart => exact ⟨0, cr0, none, 0, 0, none, 0, 0, rfl, rfl, rfl, swB_right (by omega), Nat.le_refl _, by show 0 ≤ 0 * 1048576; omega, ⟨rfl, .inl ⟨rfl, rfl⟩⟩, K_x.out, SlL.nil _, ApartV.nil _, K_r.out, K_s.out, HB.out, by have := Blk.lt K_x.out; omega⟩
  case round =>
    obtain ⟨j, x, A, N, c, A2, N2, c2, rfl, hq, hgo, hrx, hrl, hef, hown, hkx, hsl, hap, hkr, hks, hb, hsz⟩ := hrel
    have HQ := hide hq
    have HGO := hide hgo
    have HRX := hide hrx
    have HOW := hide hown
    have K_x2 := hide hkx
    have HSL := hide hsl
    have HAP := hide hap
    have K_s2 := hide hks
    have K_r2 := hide hkr
    have HB2 := hide hb
    have HSZ := hide hsz
    have HEF := hide hef
    have hj : j ≤ n := by omega
    have hbw := hb.size
    clear hq hgo hrx hown hkx hsl hap hkr hks hb hsz hef K_x K_s K_r HB HC
    have hlen4 := (rightI_zero HRX.out).2.2.2.2.2.2.1
    have hrules := rrules_at (S := S) (w := w)
    by_cases hlt : j < n
    · have hji : (j : Int) < (n : Int) := by omega
      have hj0 : (0 : Int) ≤ (j : Int) := by omega
      obtain ⟨g, og, rfl, hcell⟩ := HLC.out (by omega)
      obtain ⟨fd, hfd, hdr⟩ := zcl_lt (L := L) (j := j) (by rw [HN.out]; exact hlt)
      have a := hcell j _ (zcl_at hfd)
      have a2 := (bcell HB2.out _ _ (block_lt_of_cell a)).trans a
      have hgo := HGO.out
      rw [hdr, goC_cons] at hgo
      have HGO2 := hide hgo
      clear a hcell hfd hdr hgo HGO HLC
      by_cases h1 : fd = -1
      · subst h1
        by_cases h3 : x.st.mode = 3
        · have hst : stepC (ruN S) x (-1) = .inl ⟨swB 1, x.res, x.eff⟩ := by unfold stepC; rw [if_pos rfl, if_pos h3]
          have HST := hide hst
          have h3i : (x.st.mode : Int) = 3 := by omega
          have hz : rightI 3 (x.st.run : Int) x.st.last (x.st.rej : Int) = 0 := by rw [← h3i]; exact HRX.out
          have HZ := hide hz
          have HX3 := hide h3i
          clear hst hz h3i h3
          have KX3 := K_x2.out
          rw [HX3.out] at KX3
          have HOX := HOW.out
          replace K_x2 := hide KX3
          clear KX3
          have x20 := (Blk.cell K_x2.out 0).trans (rfl : _ = some (Value.int .i64 3))
          have x21 := (Blk.cell K_x2.out 1).trans (rfl : _ = some (Value.int .i64 (x.st.run : Int)))
          have x22 := (Blk.cell K_x2.out 2).trans (rfl : _ = some (Value.slice A N c))
          have x23 := (Blk.cell K_x2.out 3).trans (rfl : _ = some (Value.int .i64 (x.st.rej : Int)))
          have x24 := (Blk.cell K_x2.out 4).trans (rfl : _ = some (Value.slice A2 N2 c2))
          have x25 := (Blk.cell K_x2.out 5).trans (rfl : _ = some (Value.int .i64 (x.eff : Int)))
          go_wp2_with fail
          refine (HRO.out _ (x.st.run : Int) (x.st.rej : Int) (.slice A N c) x.st.last HSL.out (by omega) HZ.out).mono ?_
          rintro e wb ⟨rfl, hb⟩
          have HOB := hide (owns_below HOX hb)
          clear HOX
          clear x20 x21 x22 x23 x24 x25
          replace K_x2 := hide (Blk.below K_x2.out hb (Blk.lt K_x2.out))
          replace K_s2 := hide (Blk.below K_s2.out hb (Blk.lt K_s2.out))
          replace K_r2 := hide (Blk.below K_r2.out hb (Blk.lt K_r2.out))
          replace HB2 := hide (HB2.out.trans (hb.mono HB2.out.size))
          clear hb
          have hwb3 : w.heap.size + 3 ≤ wb.heap.size := by have := Blk.lt K_x2.out; omega
          have HWB := hide hwb3
          clear hwb3
          go_upto_region 12 with (fail)
          have kx := K_x2.out.alloc (.cells #[.int .i64 1, .int .i64 0, .slice none 0 0, .int .i64 0] 34)
          have ks := K_s2.out.alloc (.cells #[.int .i64 1, .int .i64 0, .slice none 0 0, .int .i64 0] 34)
          have kr := K_r2.out.alloc (.cells #[.int .i64 1, .int .i64 0, .slice none 0 0, .int .i64 0] 34)
          have hb4 := HB2.out.alloc HB2.out.size (.cells #[.int .i64 1, .int .i64 0, .slice none 0 0, .int .i64 0] 34)
          have ow := HOB.out.alloc (.cells #[.int .i64 1, .int .i64 0, .slice none 0 0, .int .i64 0] 34)
          have hy := Blk.new wb 34 #[.int .i64 1, .int .i64 0, .slice none 0 0, .int .i64 0]
          generalize wb.alloc (.cells #[.int .i64 1, .int .i64 0, .slice none 0 0, .int .i64 0] 34) = w4 at kx ks kr hb4 ow hy ⊢
          replace K_x2 := hide kx
          replace K_s2 := hide ks
          replace K_r2 := hide kr
          replace HB2 := hide hb4
          replace HOB := hide ow
          have hlt4 := Blk.lt hy
          clear kx ks kr hb4 ow
          have y0 := (Blk.cell hy 0).trans (rfl : _ = some (Value.int .i64 1))
          have y1 := (Blk.cell hy 1).trans (rfl : _ = some (Value.int .i64 0))
          have y2 := (Blk.cell hy 2).trans (rfl : _ = some (Value.slice none 0 0))
          have y3 := (Blk.cell hy 3).trans (rfl : _ = some (Value.int .i64 0))
          clear hy
          have x20 := (Blk.cell K_x2.out 0).trans (rfl : _ = some (Value.int .i64 3))
          have x2f0 := Blk.frozen K_x2.out 0
          have x21 := (Blk.cell K_x2.out 1).trans (rfl : _ = some (Value.int .i64 (x.st.run : Int)))
          have x2f1 := Blk.frozen K_x2.out 1
          have x22 := (Blk.cell K_x2.out 2).trans (rfl : _ = some (Value.slice A N c))
          have x2f2 := Blk.frozen K_x2.out 2
          have x23 := (Blk.cell K_x2.out 3).trans (rfl : _ = some (Value.int .i64 (x.st.rej : Int)))
          have x2f3 := Blk.frozen K_x2.out 3
          have x24 := (Blk.cell K_x2.out 4).trans (rfl : _ = some (Value.slice A2 N2 c2))
          have x2f4 := Blk.frozen K_x2.out 4
          have x25 := (Blk.cell K_x2.out 5).trans (rfl : _ = some (Value.int .i64 (x.eff : Int)))
          have x2f5 := Blk.frozen K_x2.out 5
          have hw4s : w.heap.size + 3 ≤ w4.heap.size := by have := HWB.out; omega
          have HW4 := hide hw4s
          clear hw4s hlt4
          go_wp2_with fail
          go_roundg (gk - 1)
          case measure => have := HQ.out; omega
          case rel => exact ⟨j + 1, ⟨swB 1, x.res, x.eff⟩, none, 0, 0, A2, N2, c2, by go_num, by have := HQ.out; omega, HGO2.out.trans (by rw [HST.out]), swB_right (by omega), by show x.res.length ≤ j + 1; omega, eff_step HEF.out, (ownsRow_setCell_below (ownsRow_setCell_below (ownsRow_setCell_below (ownsRow_setCell_below HOB.out (a := ⟨w.heap.size + 2, 0, none⟩) (by show w.heap.size + 2 < w.heap.size + 3; omega) (.int .i64 1)) (a := ⟨w.heap.size + 2, 1, none⟩) (by show w.heap.size + 2 < w.heap.size + 3; omega) (.int .i64 0)) (a := ⟨w.heap.size + 2, 2, none⟩) (by show w.heap.size + 2 < w.heap.size + 3; omega) (.slice none 0 0)) (a := ⟨w.heap.size + 2, 3, none⟩) (by show w.heap.size + 2 < w.heap.size + 3; omega) (.int .i64 0)), ((((K_x2.out.set_ 0 (.int .i64 1)).set_ 1 (.int .i64 0)).set_ 2 (.slice none 0 0)).set_ 3 (.int .i64 0)), SlL.nil _, ApartV.nil _, ((((K_r2.out.far (p := ⟨w.heap.size + 2, 0, none⟩) (by show w.heap.size + 1 ≠ w.heap.size + 2; omega) (.int .i64 1)).far (p := ⟨w.heap.size + 2, 1, none⟩) (by show w.heap.size + 1 ≠ w.heap.size + 2; omega) (.int .i64 0)).far (p := ⟨w.heap.size + 2, 2, none⟩) (by show w.heap.size + 1 ≠ w.heap.size + 2; omega) (.slice none 0 0)).far (p := ⟨w.heap.size + 2, 3, none⟩) (by show w.heap.size + 1 ≠ w.heap.size + 2; omega) (.int .i64 0)), ((((K_s2.out.far (p := ⟨w.heap.size + 2, 0, none⟩) (by show w.heap.size ≠ w.heap.size + 2; omega) (.int .i64 1)).far (p := ⟨w.heap.size + 2, 1, none⟩) (by show w.heap.size ≠ w.heap.size + 2; omega) (.int .i64 0)).far (p := ⟨w.heap.size + 2, 2, none⟩) (by show w.heap.size ≠ w.heap.size + 2; omega) (.slice none 0 0)).far (p := ⟨w.heap.size + 2, 3, none⟩) (by show w.heap.size ≠ w.heap.size + 2; omega) (.int .i64 0)), ((((HB2.out.setCell (p := ⟨w.heap.size + 2, 0, none⟩) (by show w.heap.size ≤ w.heap.size + 2; omega) (.int .i64 1)).setCell (p := ⟨w.heap.size + 2, 1, none⟩) (by show w.heap.size ≤ w.heap.size + 2; omega) (.int .i64 0)).setCell (p := ⟨w.heap.size + 2, 2, none⟩) (by show w.heap.size ≤ w.heap.size + 2; omega) (.slice none 0 0)).setCell (p := ⟨w.heap.size + 2, 3, none⟩) (by show w.heap.size ≤ w.heap.size + 2; omega) (.int .i64 0)), by have := HW4.out; simpa using this⟩
        · have HG := hide (HGO2.out.trans (by unfold stepC; rw [if_pos rfl, if_neg h3]))
          have hz : rstE (x.st.mode : Int) (x.st.run : Int) x.st.last (x.st.rej : Int) = 14 := by unfold rstE; rw [show rightI (x.st.mode : Int) (x.st.run : Int) x.st.last (x.st.rej : Int) = 0 from HRX.out, if_neg (by simp), if_pos (by omega)]
          have HZ := hide hz
          clear hz HGO2
          have x20 := (Blk.cell K_x2.out 0).trans (rfl : _ = some (Value.int .i64 (x.st.mode : Int)))
          have x21 := (Blk.cell K_x2.out 1).trans (rfl : _ = some (Value.int .i64 (x.st.run : Int)))
          have x22 := (Blk.cell K_x2.out 2).trans (rfl : _ = some (Value.slice A N c))
          have x23 := (Blk.cell K_x2.out 3).trans (rfl : _ = some (Value.int .i64 (x.st.rej : Int)))
          have x24 := (Blk.cell K_x2.out 4).trans (rfl : _ = some (Value.slice A2 N2 c2))
          have x25 := (Blk.cell K_x2.out 5).trans (rfl : _ = some (Value.int .i64 (x.eff : Int)))
          go_wp2_with fail
          refine (HRB.out _ (x.st.mode : Int) (x.st.run : Int) (x.st.rej : Int) 14 (.slice A N c) x.st.last HSL.out (by omega) (by omega) HZ.out).mono ?_
          rintro e wb ⟨rfl, hb⟩
          clear x20 x21 x22 x23 x24 x25
          replace K_x2 := hide (Blk.below K_x2.out hb (Blk.lt K_x2.out))
          replace K_s2 := hide (Blk.below K_s2.out hb (Blk.lt K_s2.out))
          replace K_r2 := hide (Blk.below K_r2.out hb (Blk.lt K_r2.out))
          replace HB2 := hide (HB2.out.trans (hb.mono HB2.out.size))
          clear hb
          go_upto_region 12 with (fail)
          have kr := K_r2.out.alloc (.cells #[.int .i64 0, .int .i64 0, .slice none 0 0, .int .i64 0] 34)
          have hb4 := HB2.out.alloc HB2.out.size (.cells #[.int .i64 0, .int .i64 0, .slice none 0 0, .int .i64 0] 34)
          generalize wb.alloc (.cells #[.int .i64 0, .int .i64 0, .slice none 0 0, .int .i64 0] 34) = w4 at kr hb4 ⊢
          replace K_r2 := hide kr
          replace HB2 := hide hb4
          clear kr hb4
          have r20 := (Blk.cell K_r2.out 0).trans (rfl : _ = some (Value.int .i64 0))
          have r2f0 := Blk.frozen K_r2.out 0
          have r21 := (Blk.cell K_r2.out 1).trans (rfl : _ = some (Value.int .i64 0))
          have r2f1 := Blk.frozen K_r2.out 1
          have r22 := (Blk.cell K_r2.out 2).trans (rfl : _ = some (Value.slice none 0 0))
          have r2f2 := Blk.frozen K_r2.out 2
          have r23 := (Blk.cell K_r2.out 3).trans (rfl : _ = some (Value.int .i64 0))
          have r2f3 := Blk.frozen K_r2.out 3
          have r24 := (Blk.cell K_r2.out 4).trans (rfl : _ = some (Value.slice none 0 0))
          have r2f4 := Blk.frozen K_r2.out 4
          have r25 := (Blk.cell K_r2.out 5).trans (rfl : _ = some (Value.int .i64 0))
          have r2f5 := Blk.frozen K_r2.out 5
          go_wp2_with fail
          have kf : Blk _ (w.heap.size + 1) 113 #[.int .i64 0, .int .i64 0, .slice none 0 0, .int .i64 0, .slice none 0 0, .int .i64 0] := ((((((K_r2.out.set_ 0 (.int .i64 0)).set_ 1 (.int .i64 0)).set_ 2 (.slice none 0 0)).set_ 3 (.int .i64 0)).set_ 4 (.slice none 0 0)).set_ 5 (.int .i64 0))
          have rc0 := (Blk.cell kf 0).trans (rfl : _ = some (Value.int .i64 0))
          have rc1 := (Blk.cell kf 1).trans (rfl : _ = some (Value.int .i64 0))
          have rc2 := (Blk.cell kf 2).trans (rfl : _ = some (Value.slice none 0 0))
          have rc3 := (Blk.cell kf 3).trans (rfl : _ = some (Value.int .i64 0))
          have rc4 := (Blk.cell kf 4).trans (rfl : _ = some (Value.slice none 0 0))
          have rc5 := (Blk.cell kf 5).trans (rfl : _ = some (Value.int .i64 0))
          exact bodyPost_ret (v := .tuple #[.agg #[.int .i64 0, .int .i64 0, .slice none 0 0, .int .i64 0, .slice none 0 0, .int .i64 0], .int .i64 (j : Int), .int .i64 14]) (by simp [results, Tryz.results61, go_sem, rc0, rc1, rc2, rc3, rc4, rc5]) rfl (WentP.err HG.out rfl ((((((HB2.out.setCell (p := ⟨(w.heap.size + 1), 0, none⟩) (by show w.heap.size ≤ w.heap.size + 1; omega) (.int .i64 0)).setCell (p := ⟨(w.heap.size + 1), 1, none⟩) (by show w.heap.size ≤ w.heap.size + 1; omega) (.int .i64 0)).setCell (p := ⟨(w.heap.size + 1), 2, none⟩) (by show w.heap.size ≤ w.heap.size + 1; omega) (.slice none 0 0)).setCell (p := ⟨(w.heap.size + 1), 3, none⟩) (by show w.heap.size ≤ w.heap.size + 1; omega) (.int .i64 0)).setCell (p := ⟨(w.heap.size + 1), 4, none⟩) (by show w.heap.size ≤ w.heap.size + 1; omega) (.slice none 0 0)).setCell (p := ⟨(w.heap.size + 1), 5, none⟩) (by show w.heap.size ≤ w.heap.size + 1; omega) (.int .i64 0)))
      · by_cases h3 : x.st.mode = 3
        · have HG := hide (HGO2.out.trans (by unfold stepC; rw [if_neg h1, if_pos h3]))
          have hz : nextE S (x.st.mode : Int) (x.st.run : Int) x.st.last (x.st.rej : Int) fd = 14 := by
            unfold nextE
            rw [if_neg (by rw [HSS.out]; simp), if_neg (by rw [show rightI (x.st.mode : Int) (x.st.run : Int) x.st.last (x.st.rej : Int) = 0 from HRX.out]; simp), if_pos (by omega)]
          have HZ := hide hz
          clear hz HGO2 h3
          have hf1 : (fd == -1) = false := by simpa using h1
          have HNZ := hide (fun (W : World) (h : SlL W (.slice A N c) (bcl x.st.last)) => HNB.out W (x.st.mode : Int) (x.st.run : Int) (x.st.rej : Int) fd 14 (.slice A N c) x.st.last h (by omega) (by omega) HZ.out)
          have x20 := (Blk.cell K_x2.out 0).trans (rfl : _ = some (Value.int .i64 (x.st.mode : Int)))
          have x21 := (Blk.cell K_x2.out 1).trans (rfl : _ = some (Value.int .i64 (x.st.run : Int)))
          have x22 := (Blk.cell K_x2.out 2).trans (rfl : _ = some (Value.slice A N c))
          have x23 := (Blk.cell K_x2.out 3).trans (rfl : _ = some (Value.int .i64 (x.st.rej : Int)))
          have x24 := (Blk.cell K_x2.out 4).trans (rfl : _ = some (Value.slice A2 N2 c2))
          have x25 := (Blk.cell K_x2.out 5).trans (rfl : _ = some (Value.int .i64 (x.eff : Int)))
          have s20 := (Blk.cell K_s2.out 0).trans (rfl : _ = some (Value.int .i64 (S 0).1))
          have s21 := (Blk.cell K_s2.out 1).trans (rfl : _ = some (Value.int .i64 (S 0).2))
          have s22 := (Blk.cell K_s2.out 2).trans (rfl : _ = some (Value.int .i64 (S 1).1))
          have s23 := (Blk.cell K_s2.out 3).trans (rfl : _ = some (Value.int .i64 (S 1).2))
          have s24 := (Blk.cell K_s2.out 4).trans (rfl : _ = some (Value.int .i64 (S 2).1))
          have s25 := (Blk.cell K_s2.out 5).trans (rfl : _ = some (Value.int .i64 (S 2).2))
          have SK : ∀ w', Below wr.heap.size wr w' → Below wr.heap.size wr w' ∧ w'.cell? ⟨(w.heap.size + 2), 0, none⟩ = some (.int .i64 (x.st.mode : Int)) ∧ w'.cell? ⟨(w.heap.size + 2), 1, none⟩ = some (.int .i64 (x.st.run : Int)) ∧ w'.cell? ⟨(w.heap.size + 2), 2, none⟩ = some (.slice A N c) ∧ w'.cell? ⟨(w.heap.size + 2), 3, none⟩ = some (.int .i64 (x.st.rej : Int)) ∧ w'.cell? ⟨(w.heap.size + 2), 4, none⟩ = some (.slice A2 N2 c2) ∧ w'.cell? ⟨(w.heap.size + 2), 5, none⟩ = some (.int .i64 (x.eff : Int)) ∧ w'.cell? ⟨w.heap.size, 0, none⟩ = some (.int .i64 (S 0).1) ∧ w'.cell? ⟨w.heap.size, 1, none⟩ = some (.int .i64 (S 0).2) ∧ w'.cell? ⟨w.heap.size, 2, none⟩ = some (.int .i64 (S 1).1) ∧ w'.cell? ⟨w.heap.size, 3, none⟩ = some (.int .i64 (S 1).2) ∧ w'.cell? ⟨w.heap.size, 4, none⟩ = some (.int .i64 (S 2).1) ∧ w'.cell? ⟨w.heap.size, 5, none⟩ = some (.int .i64 (S 2).2) ∧ w'.cell? ⟨g, og + j, none⟩ = some (.int .i64 fd) := fun w' h => ⟨h, (bcell h _ _ (block_lt_of_cell x20)).trans x20, (bcell h _ _ (block_lt_of_cell x21)).trans x21, (bcell h _ _ (block_lt_of_cell x22)).trans x22, (bcell h _ _ (block_lt_of_cell x23)).trans x23, (bcell h _ _ (block_lt_of_cell x24)).trans x24, (bcell h _ _ (block_lt_of_cell x25)).trans x25, (bcell h _ _ (block_lt_of_cell s20)).trans s20, (bcell h _ _ (block_lt_of_cell s21)).trans s21, (bcell h _ _ (block_lt_of_cell s22)).trans s22, (bcell h _ _ (block_lt_of_cell s23)).trans s23, (bcell h _ _ (block_lt_of_cell s24)).trans s24, (bcell h _ _ (block_lt_of_cell s25)).trans s25, (bcell h _ _ (block_lt_of_cell a2)).trans a2⟩
          go_upto_region 15 with (fail)
          go_cut [14] (fun v14 wc => v14 = .int .i64 14 ∧ Below wr.heap.size wr wc)
          case first =>
            go_region_held3 (fun w' => Below wr.heap.size wr w' ∧ w'.cell? ⟨(w.heap.size + 2), 0, none⟩ = some (.int .i64 (x.st.mode : Int)) ∧ w'.cell? ⟨(w.heap.size + 2), 1, none⟩ = some (.int .i64 (x.st.run : Int)) ∧ w'.cell? ⟨(w.heap.size + 2), 2, none⟩ = some (.slice A N c) ∧ w'.cell? ⟨(w.heap.size + 2), 3, none⟩ = some (.int .i64 (x.st.rej : Int)) ∧ w'.cell? ⟨(w.heap.size + 2), 4, none⟩ = some (.slice A2 N2 c2) ∧ w'.cell? ⟨(w.heap.size + 2), 5, none⟩ = some (.int .i64 (x.eff : Int)) ∧ w'.cell? ⟨w.heap.size, 0, none⟩ = some (.int .i64 (S 0).1) ∧ w'.cell? ⟨w.heap.size, 1, none⟩ = some (.int .i64 (S 0).2) ∧ w'.cell? ⟨w.heap.size, 2, none⟩ = some (.int .i64 (S 1).1) ∧ w'.cell? ⟨w.heap.size, 3, none⟩ = some (.int .i64 (S 1).2) ∧ w'.cell? ⟨w.heap.size, 4, none⟩ = some (.int .i64 (S 2).1) ∧ w'.cell? ⟨w.heap.size, 5, none⟩ = some (.int .i64 (S 2).2) ∧ w'.cell? ⟨g, og + j, none⟩ = some (.int .i64 fd)) (first | exact SK _ (Below.refl _ _).drew | exact SK _ (Below.refl _ _) | exact SK _ (nalcW _ _).drew | exact SK _ (nalcW _ _) | exact SK _ (by assumption) | exact SK _ (bel_alW2 (by assumption) _) | exact SK _ (bel_set4W (by assumption) _ (Nat.le_refl _) _ _ _ _))
              ((go_at_call 26; (first | refine (HNZ.out _ (HSL.out.below (Below.refl _ _).drew)).mono ?_ | refine (HNZ.out _ (HSL.out.below (nalcW wr (.cells #[.int .i64 0, .int .i64 0, .slice none 0 0, .int .i64 0] 34)).drew)).mono ?_); rintro e wx ⟨rfl, hbW⟩; (first | (have hN := Blk.below (g := wr.heap.size) (t := 34) (cs := #[.int .i64 0, .int .i64 0, .slice none 0 0, .int .i64 0]) (Blk.drew (Blk.new wr _ _)) hbW (by simp); have hbX : Below wr.heap.size wr wx := (nalcW wr (.cells #[.int .i64 0, .int .i64 0, .slice none 0 0, .int .i64 0] 34)).drew.trans (hbW.mono (by simp)); have n0 := (Blk.cell hN 0).trans rfl; have y0 := Blk.frozen hN 0; have n1 := (Blk.cell hN 1).trans rfl; have y1 := Blk.frozen hN 1; have n2 := (Blk.cell hN 2).trans rfl; have y2 := Blk.frozen hN 2; have n3 := (Blk.cell hN 3).trans rfl; have y3 := Blk.frozen hN 3; clear hbW) | (have hbX : Below wr.heap.size wr wx := (Below.refl _ _).drew.trans (hbW.mono (Nat.le_refl _)); clear hbW))))
            all_goals
              go_wp2_with fail
              go_meet
              case rel => exact ⟨rfl, And.left (by assumption)⟩
          case rest =>
            obtain ⟨rfl, hb⟩ := hcut
            clear SK
            clear x20 x21 x22 x23 x24 x25 s20 s21 s22 s23 s24 s25
            replace K_x2 := hide (Blk.below K_x2.out hb (Blk.lt K_x2.out))
            replace K_s2 := hide (Blk.below K_s2.out hb (Blk.lt K_s2.out))
            replace K_r2 := hide (Blk.below K_r2.out hb (Blk.lt K_r2.out))
            replace HB2 := hide (HB2.out.trans (hb.mono HB2.out.size))
            clear hb
            have r20 := (Blk.cell K_r2.out 0).trans (rfl : _ = some (Value.int .i64 0))
            have r2f0 := Blk.frozen K_r2.out 0
            have r21 := (Blk.cell K_r2.out 1).trans (rfl : _ = some (Value.int .i64 0))
            have r2f1 := Blk.frozen K_r2.out 1
            have r22 := (Blk.cell K_r2.out 2).trans (rfl : _ = some (Value.slice none 0 0))
            have r2f2 := Blk.frozen K_r2.out 2
            have r23 := (Blk.cell K_r2.out 3).trans (rfl : _ = some (Value.int .i64 0))
            have r2f3 := Blk.frozen K_r2.out 3
            have r24 := (Blk.cell K_r2.out 4).trans (rfl : _ = some (Value.slice none 0 0))
            have r2f4 := Blk.frozen K_r2.out 4
            have r25 := (Blk.cell K_r2.out 5).trans (rfl : _ = some (Value.int .i64 0))
            have r2f5 := Blk.frozen K_r2.out 5
            go_wp2_with fail
            have kf : Blk _ (w.heap.size + 1) 113 #[.int .i64 0, .int .i64 0, .slice none 0 0, .int .i64 0, .slice none 0 0, .int .i64 0] := ((((((K_r2.out.set_ 0 (.int .i64 0)).set_ 1 (.int .i64 0)).set_ 2 (.slice none 0 0)).set_ 3 (.int .i64 0)).set_ 4 (.slice none 0 0)).set_ 5 (.int .i64 0))
            have rc0 := (Blk.cell kf 0).trans (rfl : _ = some (Value.int .i64 0))
            have rc1 := (Blk.cell kf 1).trans (rfl : _ = some (Value.int .i64 0))
            have rc2 := (Blk.cell kf 2).trans (rfl : _ = some (Value.slice none 0 0))
            have rc3 := (Blk.cell kf 3).trans (rfl : _ = some (Value.int .i64 0))
            have rc4 := (Blk.cell kf 4).trans (rfl : _ = some (Value.slice none 0 0))
            have rc5 := (Blk.cell kf 5).trans (rfl : _ = some (Value.int .i64 0))
            exact bodyPost_ret (v := .tuple #[.agg #[.int .i64 0, .int .i64 0, .slice none 0 0, .int .i64 0, .slice none 0 0, .int .i64 0], .int .i64 (j : Int), .int .i64 14]) (by simp [results, Tryz.results61, go_sem, rc0, rc1, rc2, rc3, rc4, rc5]) rfl (WentP.err HG.out rfl ((((((HB2.out.setCell (p := ⟨(w.heap.size + 1), 0, none⟩) (by show w.heap.size ≤ w.heap.size + 1; omega) (.int .i64 0)).setCell (p := ⟨(w.heap.size + 1), 1, none⟩) (by show w.heap.size ≤ w.heap.size + 1; omega) (.int .i64 0)).setCell (p := ⟨(w.heap.size + 1), 2, none⟩) (by show w.heap.size ≤ w.heap.size + 1; omega) (.slice none 0 0)).setCell (p := ⟨(w.heap.size + 1), 3, none⟩) (by show w.heap.size ≤ w.heap.size + 1; omega) (.int .i64 0)).setCell (p := ⟨(w.heap.size + 1), 4, none⟩) (by show w.heap.size ≤ w.heap.size + 1; omega) (.slice none 0 0)).setCell (p := ⟨(w.heap.size + 1), 5, none⟩) (by show w.heap.size ≤ w.heap.size + 1; omega) (.int .i64 0)))
        · have hm3 : x.st.mode < 3 := by have := (rightI_zero HRX.out).2.1; omega
          by_cases hrg : fd < 0 ∨ ((ruN S x.st.mode).1 : Int) < fd
          · have HG := hide (HGO2.out.trans (by unfold stepC; rw [if_neg h1, if_neg h3, if_pos hrg]))
            have hz : nextE S (x.st.mode : Int) (x.st.run : Int) x.st.last (x.st.rej : Int) fd = 2 := by
              unfold nextE
              rw [if_neg (by rw [HSS.out]; simp), if_neg (by rw [show rightI (x.st.mode : Int) (x.st.run : Int) x.st.last (x.st.rej : Int) = 0 from HRX.out]; simp), if_neg (by omega), if_pos (by rw [Int.toNat_natCast, (ruN_at HSS.out hm3).1]; exact hrg)]
            have HZ := hide hz
            clear hz HGO2 h3
            have hf1 : (fd == -1) = false := by simpa using h1
            clear hrg hm3
            have HNZ := hide (fun (W : World) (h : SlL W (.slice A N c) (bcl x.st.last)) => HNB.out W (x.st.mode : Int) (x.st.run : Int) (x.st.rej : Int) fd 2 (.slice A N c) x.st.last h (by omega) (by omega) HZ.out)
            have x20 := (Blk.cell K_x2.out 0).trans (rfl : _ = some (Value.int .i64 (x.st.mode : Int)))
            have x21 := (Blk.cell K_x2.out 1).trans (rfl : _ = some (Value.int .i64 (x.st.run : Int)))
            have x22 := (Blk.cell K_x2.out 2).trans (rfl : _ = some (Value.slice A N c))
            have x23 := (Blk.cell K_x2.out 3).trans (rfl : _ = some (Value.int .i64 (x.st.rej : Int)))
            have x24 := (Blk.cell K_x2.out 4).trans (rfl : _ = some (Value.slice A2 N2 c2))
            have x25 := (Blk.cell K_x2.out 5).trans (rfl : _ = some (Value.int .i64 (x.eff : Int)))
            have s20 := (Blk.cell K_s2.out 0).trans (rfl : _ = some (Value.int .i64 (S 0).1))
            have s21 := (Blk.cell K_s2.out 1).trans (rfl : _ = some (Value.int .i64 (S 0).2))
            have s22 := (Blk.cell K_s2.out 2).trans (rfl : _ = some (Value.int .i64 (S 1).1))
            have s23 := (Blk.cell K_s2.out 3).trans (rfl : _ = some (Value.int .i64 (S 1).2))
            have s24 := (Blk.cell K_s2.out 4).trans (rfl : _ = some (Value.int .i64 (S 2).1))
            have s25 := (Blk.cell K_s2.out 5).trans (rfl : _ = some (Value.int .i64 (S 2).2))
            have SK : ∀ w', Below wr.heap.size wr w' → Below wr.heap.size wr w' ∧ w'.cell? ⟨(w.heap.size + 2), 0, none⟩ = some (.int .i64 (x.st.mode : Int)) ∧ w'.cell? ⟨(w.heap.size + 2), 1, none⟩ = some (.int .i64 (x.st.run : Int)) ∧ w'.cell? ⟨(w.heap.size + 2), 2, none⟩ = some (.slice A N c) ∧ w'.cell? ⟨(w.heap.size + 2), 3, none⟩ = some (.int .i64 (x.st.rej : Int)) ∧ w'.cell? ⟨(w.heap.size + 2), 4, none⟩ = some (.slice A2 N2 c2) ∧ w'.cell? ⟨(w.heap.size + 2), 5, none⟩ = some (.int .i64 (x.eff : Int)) ∧ w'.cell? ⟨w.heap.size, 0, none⟩ = some (.int .i64 (S 0).1) ∧ w'.cell? ⟨w.heap.size, 1, none⟩ = some (.int .i64 (S 0).2) ∧ w'.cell? ⟨w.heap.size, 2, none⟩ = some (.int .i64 (S 1).1) ∧ w'.cell? ⟨w.heap.size, 3, none⟩ = some (.int .i64 (S 1).2) ∧ w'.cell? ⟨w.heap.size, 4, none⟩ = some (.int .i64 (S 2).1) ∧ w'.cell? ⟨w.heap.size, 5, none⟩ = some (.int .i64 (S 2).2) ∧ w'.cell? ⟨g, og + j, none⟩ = some (.int .i64 fd) := fun w' h => ⟨h, (bcell h _ _ (block_lt_of_cell x20)).trans x20, (bcell h _ _ (block_lt_of_cell x21)).trans x21, (bcell h _ _ (block_lt_of_cell x22)).trans x22, (bcell h _ _ (block_lt_of_cell x23)).trans x23, (bcell h _ _ (block_lt_of_cell x24)).trans x24, (bcell h _ _ (block_lt_of_cell x25)).trans x25, (bcell h _ _ (block_lt_of_cell s20)).trans s20, (bcell h _ _ (block_lt_of_cell s21)).trans s21, (bcell h _ _ (block_lt_of_cell s22)).trans s22, (bcell h _ _ (block_lt_of_cell s23)).trans s23, (bcell h _ _ (block_lt_of_cell s24)).trans s24, (bcell h _ _ (block_lt_of_cell s25)).trans s25, (bcell h _ _ (block_lt_of_cell a2)).trans a2⟩
            go_upto_region 15 with (fail)
            go_cut [14] (fun v14 wc => v14 = .int .i64 2 ∧ Below wr.heap.size wr wc)
            case first =>
              go_region_held3 (fun w' => Below wr.heap.size wr w' ∧ w'.cell? ⟨(w.heap.size + 2), 0, none⟩ = some (.int .i64 (x.st.mode : Int)) ∧ w'.cell? ⟨(w.heap.size + 2), 1, none⟩ = some (.int .i64 (x.st.run : Int)) ∧ w'.cell? ⟨(w.heap.size + 2), 2, none⟩ = some (.slice A N c) ∧ w'.cell? ⟨(w.heap.size + 2), 3, none⟩ = some (.int .i64 (x.st.rej : Int)) ∧ w'.cell? ⟨(w.heap.size + 2), 4, none⟩ = some (.slice A2 N2 c2) ∧ w'.cell? ⟨(w.heap.size + 2), 5, none⟩ = some (.int .i64 (x.eff : Int)) ∧ w'.cell? ⟨w.heap.size, 0, none⟩ = some (.int .i64 (S 0).1) ∧ w'.cell? ⟨w.heap.size, 1, none⟩ = some (.int .i64 (S 0).2) ∧ w'.cell? ⟨w.heap.size, 2, none⟩ = some (.int .i64 (S 1).1) ∧ w'.cell? ⟨w.heap.size, 3, none⟩ = some (.int .i64 (S 1).2) ∧ w'.cell? ⟨w.heap.size, 4, none⟩ = some (.int .i64 (S 2).1) ∧ w'.cell? ⟨w.heap.size, 5, none⟩ = some (.int .i64 (S 2).2) ∧ w'.cell? ⟨g, og + j, none⟩ = some (.int .i64 fd)) (first | exact SK _ (Below.refl _ _).drew | exact SK _ (Below.refl _ _) | exact SK _ (nalcW _ _).drew | exact SK _ (nalcW _ _) | exact SK _ (by assumption) | exact SK _ (bel_alW2 (by assumption) _) | exact SK _ (bel_set4W (by assumption) _ (Nat.le_refl _) _ _ _ _))
                ((go_at_call 26; (first | refine (HNZ.out _ (HSL.out.below (Below.refl _ _).drew)).mono ?_ | refine (HNZ.out _ (HSL.out.below (nalcW wr (.cells #[.int .i64 0, .int .i64 0, .slice none 0 0, .int .i64 0] 34)).drew)).mono ?_); rintro e wx ⟨rfl, hbW⟩; (first | (have hN := Blk.below (g := wr.heap.size) (t := 34) (cs := #[.int .i64 0, .int .i64 0, .slice none 0 0, .int .i64 0]) (Blk.drew (Blk.new wr _ _)) hbW (by simp); have hbX : Below wr.heap.size wr wx := (nalcW wr (.cells #[.int .i64 0, .int .i64 0, .slice none 0 0, .int .i64 0] 34)).drew.trans (hbW.mono (by simp)); have n0 := (Blk.cell hN 0).trans rfl; have y0 := Blk.frozen hN 0; have n1 := (Blk.cell hN 1).trans rfl; have y1 := Blk.frozen hN 1; have n2 := (Blk.cell hN 2).trans rfl; have y2 := Blk.frozen hN 2; have n3 := (Blk.cell hN 3).trans rfl; have y3 := Blk.frozen hN 3; clear hbW) | (have hbX : Below wr.heap.size wr wx := (Below.refl _ _).drew.trans (hbW.mono (Nat.le_refl _)); clear hbW))))
              all_goals
                go_wp2_with fail
                go_meet
                case rel => exact ⟨rfl, And.left (by assumption)⟩
            case rest =>
              obtain ⟨rfl, hb⟩ := hcut
              clear SK
              clear x20 x21 x22 x23 x24 x25 s20 s21 s22 s23 s24 s25
              replace K_x2 := hide (Blk.below K_x2.out hb (Blk.lt K_x2.out))
              replace K_s2 := hide (Blk.below K_s2.out hb (Blk.lt K_s2.out))
              replace K_r2 := hide (Blk.below K_r2.out hb (Blk.lt K_r2.out))
              replace HB2 := hide (HB2.out.trans (hb.mono HB2.out.size))
              clear hb
              have r20 := (Blk.cell K_r2.out 0).trans (rfl : _ = some (Value.int .i64 0))
              have r2f0 := Blk.frozen K_r2.out 0
              have r21 := (Blk.cell K_r2.out 1).trans (rfl : _ = some (Value.int .i64 0))
              have r2f1 := Blk.frozen K_r2.out 1
              have r22 := (Blk.cell K_r2.out 2).trans (rfl : _ = some (Value.slice none 0 0))
              have r2f2 := Blk.frozen K_r2.out 2
              have r23 := (Blk.cell K_r2.out 3).trans (rfl : _ = some (Value.int .i64 0))
              have r2f3 := Blk.frozen K_r2.out 3
              have r24 := (Blk.cell K_r2.out 4).trans (rfl : _ = some (Value.slice none 0 0))
              have r2f4 := Blk.frozen K_r2.out 4
              have r25 := (Blk.cell K_r2.out 5).trans (rfl : _ = some (Value.int .i64 0))
              have r2f5 := Blk.frozen K_r2.out 5
              go_wp2_with fail
              have kf : Blk _ (w.heap.size + 1) 113 #[.int .i64 0, .int .i64 0, .slice none 0 0, .int .i64 0, .slice none 0 0, .int .i64 0] := ((((((K_r2.out.set_ 0 (.int .i64 0)).set_ 1 (.int .i64 0)).set_ 2 (.slice none 0 0)).set_ 3 (.int .i64 0)).set_ 4 (.slice none 0 0)).set_ 5 (.int .i64 0))
              have rc0 := (Blk.cell kf 0).trans (rfl : _ = some (Value.int .i64 0))
              have rc1 := (Blk.cell kf 1).trans (rfl : _ = some (Value.int .i64 0))
              have rc2 := (Blk.cell kf 2).trans (rfl : _ = some (Value.slice none 0 0))
              have rc3 := (Blk.cell kf 3).trans (rfl : _ = some (Value.int .i64 0))
              have rc4 := (Blk.cell kf 4).trans (rfl : _ = some (Value.slice none 0 0))
              have rc5 := (Blk.cell kf 5).trans (rfl : _ = some (Value.int .i64 0))
              exact bodyPost_ret (v := .tuple #[.agg #[.int .i64 0, .int .i64 0, .slice none 0 0, .int .i64 0, .slice none 0 0, .int .i64 0], .int .i64 (j : Int), .int .i64 2]) (by simp [results, Tryz.results61, go_sem, rc0, rc1, rc2, rc3, rc4, rc5]) rfl (WentP.err HG.out rfl ((((((HB2.out.setCell (p := ⟨(w.heap.size + 1), 0, none⟩) (by show w.heap.size ≤ w.heap.size + 1; omega) (.int .i64 0)).setCell (p := ⟨(w.heap.size + 1), 1, none⟩) (by show w.heap.size ≤ w.heap.size + 1; omega) (.int .i64 0)).setCell (p := ⟨(w.heap.size + 1), 2, none⟩) (by show w.heap.size ≤ w.heap.size + 1; omega) (.slice none 0 0)).setCell (p := ⟨(w.heap.size + 1), 3, none⟩) (by show w.heap.size ≤ w.heap.size + 1; omega) (.int .i64 0)).setCell (p := ⟨(w.heap.size + 1), 4, none⟩) (by show w.heap.size ≤ w.heap.size + 1; omega) (.slice none 0 0)).setCell (p := ⟨(w.heap.size + 1), 5, none⟩) (by show w.heap.size ≤ w.heap.size + 1; omega) (.int .i64 0)))
          · have hs1 := (ruN_at HSS.out hm3).1
            have hs2 := (ruN_at HSS.out hm3).2
            have hle := ruN_le HSS.out x.st.mode
            obtain ⟨ok, hok⟩ : ∃ b, decide (fd ≤ ((ruN S x.st.mode).2 : Int)) = b := ⟨_, rfl⟩
            have hst : stepC (ruN S) x fd = .inl ⟨goesS x.st ok, x.res ++ [ok], x.eff + (ruN S x.st.mode).1⟩ := by unfold stepC; rw [if_neg h1, if_neg h3, if_neg hrg, hok]
            have HST := hide hst
            have hgr := (goesS_ok HRX.out ok).2
            have HGR := hide hgr
            have HNC := hide (fun (W : World) (h : SlL W (.slice A N c) (bcl x.st.last)) => HNO.out W x.st fd (.slice A N c) h HRX.out h3 (by omega) (by rw [hs1]; omega))
            rw [hs2, hok] at HNC
            obtain ⟨sz, hszz⟩ : ∃ z, (ruN S x.st.mode).1 = z := ⟨_, rfl⟩
            rw [hszz] at hs1 HST hle
            have HSX := hide hs1
            have hsb : sz ≤ 1048576 := hle.1
            have hef := eff_small HEF.out (by omega)
            obtain ⟨y, hy⟩ : ∃ y, goesS x.st ok = y := ⟨_, rfl⟩
            rw [hy] at HNC HST HGR
            have hwe : IntKind.i64.wrap ((x.eff : Int) + (sz : Int)) = ((x.eff + sz : Nat) : Int) := (IntWalk.i64_in _ (by omega)).trans (by omega)
            have HSB := hide hsb
            clear hsb hef
            have hml : x.st.mode < 3 := hm3
            have hf1 : (fd == -1) = false := by simpa using h1
            clear hs1 hs2 hle hok hst hgr hszz hy h1 h3 hrg HNO HNB HRB HRO
            obtain ⟨mo, hmo⟩ : ∃ m, x.st.mode = m := ⟨_, rfl⟩
            rw [hmo] at hml
            have hm0 : (0 : Int) ≤ (mo : Int) := by omega
            have hmi : (mo : Int) < 3 := by omega
            have HMO := hide hmo
            have KX3 := K_x2.out
            rw [hmo] at KX3 HNC
            replace K_x2 := hide KX3
            clear KX3 hmo hm3
            have hef2 : x.eff + sz ≤ (j + 1) * 1048576 := eff_more HEF.out HSB.out
            have HEF2 := hide hef2
            clear hef2
            obtain ⟨ef, hef⟩ : ∃ z, x.eff + sz = z := ⟨_, rfl⟩
            rw [hef] at hwe HEF2 HST
            have HE := hide hef
            clear hef
            have hrl2 : (x.res ++ [ok]).length = x.res.length + 1 := by simp
            have HRL2 := hide hrl2
            clear hrl2
            have x20 := (Blk.cell K_x2.out 0).trans (rfl : _ = some (Value.int .i64 (mo : Int)))
            have x21 := (Blk.cell K_x2.out 1).trans (rfl : _ = some (Value.int .i64 (x.st.run : Int)))
            have x22 := (Blk.cell K_x2.out 2).trans (rfl : _ = some (Value.slice A N c))
            have x23 := (Blk.cell K_x2.out 3).trans (rfl : _ = some (Value.int .i64 (x.st.rej : Int)))
            have x24 := (Blk.cell K_x2.out 4).trans (rfl : _ = some (Value.slice A2 N2 c2))
            have x25 := (Blk.cell K_x2.out 5).trans (rfl : _ = some (Value.int .i64 (x.eff : Int)))
            have s20 := (Blk.cell K_s2.out 0).trans (rfl : _ = some (Value.int .i64 (S 0).1))
            have s21 := (Blk.cell K_s2.out 1).trans (rfl : _ = some (Value.int .i64 (S 0).2))
            have s22 := (Blk.cell K_s2.out 2).trans (rfl : _ = some (Value.int .i64 (S 1).1))
            have s23 := (Blk.cell K_s2.out 3).trans (rfl : _ = some (Value.int .i64 (S 1).2))
            have s24 := (Blk.cell K_s2.out 4).trans (rfl : _ = some (Value.int .i64 (S 2).1))
            have s25 := (Blk.cell K_s2.out 5).trans (rfl : _ = some (Value.int .i64 (S 2).2))
            have SK : ∀ w', Below wr.heap.size wr w' → Below wr.heap.size wr w' ∧ w'.cell? ⟨(w.heap.size + 2), 0, none⟩ = some (.int .i64 (mo : Int)) ∧ w'.cell? ⟨(w.heap.size + 2), 1, none⟩ = some (.int .i64 (x.st.run : Int)) ∧ w'.cell? ⟨(w.heap.size + 2), 2, none⟩ = some (.slice A N c) ∧ w'.cell? ⟨(w.heap.size + 2), 3, none⟩ = some (.int .i64 (x.st.rej : Int)) ∧ w'.cell? ⟨(w.heap.size + 2), 4, none⟩ = some (.slice A2 N2 c2) ∧ w'.cell? ⟨(w.heap.size + 2), 5, none⟩ = some (.int .i64 (x.eff : Int)) ∧ w'.cell? ⟨w.heap.size, 0, none⟩ = some (.int .i64 (S 0).1) ∧ w'.cell? ⟨w.heap.size, 1, none⟩ = some (.int .i64 (S 0).2) ∧ w'.cell? ⟨w.heap.size, 2, none⟩ = some (.int .i64 (S 1).1) ∧ w'.cell? ⟨w.heap.size, 3, none⟩ = some (.int .i64 (S 1).2) ∧ w'.cell? ⟨w.heap.size, 4, none⟩ = some (.int .i64 (S 2).1) ∧ w'.cell? ⟨w.heap.size, 5, none⟩ = some (.int .i64 (S 2).2) ∧ w'.cell? ⟨g, og + j, none⟩ = some (.int .i64 fd) := fun w' h => ⟨h, (bcell h _ _ (block_lt_of_cell x20)).trans x20, (bcell h _ _ (block_lt_of_cell x21)).trans x21, (bcell h _ _ (block_lt_of_cell x22)).trans x22, (bcell h _ _ (block_lt_of_cell x23)).trans x23, (bcell h _ _ (block_lt_of_cell x24)).trans x24, (bcell h _ _ (block_lt_of_cell x25)).trans x25, (bcell h _ _ (block_lt_of_cell s20)).trans s20, (bcell h _ _ (block_lt_of_cell s21)).trans s21, (bcell h _ _ (block_lt_of_cell s22)).trans s22, (bcell h _ _ (block_lt_of_cell s23)).trans s23, (bcell h _ _ (block_lt_of_cell s24)).trans s24, (bcell h _ _ (block_lt_of_cell s25)).trans s25, (bcell h _ _ (block_lt_of_cell a2)).trans a2⟩
            go_upto_region 15 with (fail)
            go_cut [12, 13, 14] (fun v12 v13 v14 wc => ∃ (b12 : Nat) (A9 : Option Addr) (N9 c9 : Nat), v12 = .pointer (some ⟨b12, 0, none⟩) ∧ v13 = .bool ok ∧ v14 = .int .i64 0 ∧ Blk wc b12 34 #[.int .i64 (y.mode : Int), .int .i64 (y.run : Int), .slice A9 N9 c9, .int .i64 (y.rej : Int)] ∧ SlL wc (.slice A9 N9 c9) (bcl y.last) ∧ FrV wr.heap.size (.slice A9 N9 c9) ∧ wr.heap.size ≤ b12 ∧ Below wr.heap.size wr wc)
            case first =>
              go_region_held3 (fun w' => Below wr.heap.size wr w' ∧ w'.cell? ⟨(w.heap.size + 2), 0, none⟩ = some (.int .i64 (mo : Int)) ∧ w'.cell? ⟨(w.heap.size + 2), 1, none⟩ = some (.int .i64 (x.st.run : Int)) ∧ w'.cell? ⟨(w.heap.size + 2), 2, none⟩ = some (.slice A N c) ∧ w'.cell? ⟨(w.heap.size + 2), 3, none⟩ = some (.int .i64 (x.st.rej : Int)) ∧ w'.cell? ⟨(w.heap.size + 2), 4, none⟩ = some (.slice A2 N2 c2) ∧ w'.cell? ⟨(w.heap.size + 2), 5, none⟩ = some (.int .i64 (x.eff : Int)) ∧ w'.cell? ⟨w.heap.size, 0, none⟩ = some (.int .i64 (S 0).1) ∧ w'.cell? ⟨w.heap.size, 1, none⟩ = some (.int .i64 (S 0).2) ∧ w'.cell? ⟨w.heap.size, 2, none⟩ = some (.int .i64 (S 1).1) ∧ w'.cell? ⟨w.heap.size, 3, none⟩ = some (.int .i64 (S 1).2) ∧ w'.cell? ⟨w.heap.size, 4, none⟩ = some (.int .i64 (S 2).1) ∧ w'.cell? ⟨w.heap.size, 5, none⟩ = some (.int .i64 (S 2).2) ∧ w'.cell? ⟨g, og + j, none⟩ = some (.int .i64 fd)) (first | exact SK _ (Below.refl _ _).drew | exact SK _ (Below.refl _ _) | exact SK _ (nalcW _ _).drew | exact SK _ (nalcW _ _) | exact SK _ (by assumption) | exact SK _ (bel_alW2 (by assumption) _) | exact SK _ (bel_set4W (by assumption) _ (Nat.le_refl _) _ _ _ _))
                ((go_at_call 26; (first | refine (HNC.out _ (HSL.out.below (Below.refl _ _).drew)).mono ?_ | refine (HNC.out _ (HSL.out.below (nalcW wr (.cells #[.int .i64 0, .int .i64 0, .slice none 0 0, .int .i64 0] 34)).drew)).mono ?_); rintro e wx ⟨u, rfl, hst, hbW⟩; obtain ⟨sl, rfl, hsl, hfr⟩ := hst; obtain ⟨A9, N9, c9, rfl⟩ := hsl.shape3; (first | (have hN := Blk.below (g := wr.heap.size) (t := 34) (cs := #[.int .i64 0, .int .i64 0, .slice none 0 0, .int .i64 0]) (Blk.drew (Blk.new wr _ _)) hbW (by simp); have hbX : Below wr.heap.size wr wx := (nalcW wr (.cells #[.int .i64 0, .int .i64 0, .slice none 0 0, .int .i64 0] 34)).drew.trans (hbW.mono (by simp)); have n0 := (Blk.cell hN 0).trans rfl; have y0 := Blk.frozen hN 0; have n1 := (Blk.cell hN 1).trans rfl; have y1 := Blk.frozen hN 1; have n2 := (Blk.cell hN 2).trans rfl; have y2 := Blk.frozen hN 2; have n3 := (Blk.cell hN 3).trans rfl; have y3 := Blk.frozen hN 3; clear hbW) | (have hbX : Below wr.heap.size wr wx := (Below.refl _ _).drew.trans (hbW.mono (Nat.le_refl _)); clear hbW))))
              all_goals
                go_wp2_with fail
                go_meet
                case rel =>
                  first
                    | exact ⟨_, A9, N9, c9, rfl, rfl, rfl, Blk.new wx _ _, hsl.below (nalcW wx _), hfr.mono (by simp), hbX.size, bel_alW2 hbX _⟩
                    | exact ⟨wr.heap.size, A9, N9, c9, rfl, rfl, rfl, (((hN.set_ 0 (.int .i64 (y.mode : Int))).set_ 1 (.int .i64 (y.run : Int))).set_ 2 (.slice A9 N9 c9)).set_ 3 (.int .i64 (y.rej : Int)), hsl.own hN (nobool4 0 0 0 none 0 0) (only_setCell (only_setCell (only_setCell (only_setCell (only_refl _ (some (wr.heap.size))) (p := ⟨wr.heap.size, 0, none⟩) (Or.inl rfl) (.int .i64 (y.mode : Int))) (p := ⟨wr.heap.size, 1, none⟩) (Or.inl rfl) (.int .i64 (y.run : Int))) (p := ⟨wr.heap.size, 2, none⟩) (Or.inl rfl) (.slice A9 N9 c9)) (p := ⟨wr.heap.size, 3, none⟩) (Or.inl rfl) (.int .i64 (y.rej : Int))), hfr.mono (by simp), Nat.le_refl _, bel_set4W hbX _ (Nat.le_refl _) _ _ _ _⟩
            case rest =>
              obtain ⟨b12, A9, N9, c9, rfl, rfl, rfl, hy12, hsl9, hfr9, hb12, hb⟩ := hcut
              clear SK
              clear x20 x21 x22 x23 x24 x25 s20 s21 s22 s23 s24 s25
              have hrlt := HOW.out.lt
              have HAP9 := hide (show ApartV (.slice A9 N9 c9) (.slice A2 N2 c2) from fun g o n c h e => by
                have h1 := hfr9 g o n c h
                have h2 := (hrlt g e).2
                omega)
              have HOB := hide (owns_below HOW.out hb)
              have HSL9 := hide hsl9
              have hb12w : w.heap.size + 3 ≤ b12 := by have := HSZ.out; omega
              have K_y := hide hy12
              have HRB := hide hrlt
              clear hsl9 hfr9 hy12 hrlt
              replace K_x2 := hide (Blk.below K_x2.out hb (Blk.lt K_x2.out))
              replace K_s2 := hide (Blk.below K_s2.out hb (Blk.lt K_s2.out))
              replace K_r2 := hide (Blk.below K_r2.out hb (Blk.lt K_r2.out))
              replace HB2 := hide (HB2.out.trans (hb.mono HB2.out.size))
              clear hb
              have hat : wc.cell? ⟨w.heap.size, mo * 2, none⟩ = some (.int .i64 (sz : Int)) := by
                have h := hrules _ K_s2.out x.st.mode (by rw [HMO.out]; exact hml)
                rw [HSX.out, HMO.out] at h
                exact h
              have x20 := (Blk.cell K_x2.out 0).trans (rfl : _ = some (Value.int .i64 (mo : Int)))
              have x2f0 := Blk.frozen K_x2.out 0
              have x21 := (Blk.cell K_x2.out 1).trans (rfl : _ = some (Value.int .i64 (x.st.run : Int)))
              have x2f1 := Blk.frozen K_x2.out 1
              have x22 := (Blk.cell K_x2.out 2).trans (rfl : _ = some (Value.slice A N c))
              have x2f2 := Blk.frozen K_x2.out 2
              have x23 := (Blk.cell K_x2.out 3).trans (rfl : _ = some (Value.int .i64 (x.st.rej : Int)))
              have x2f3 := Blk.frozen K_x2.out 3
              have x24 := (Blk.cell K_x2.out 4).trans (rfl : _ = some (Value.slice A2 N2 c2))
              have x2f4 := Blk.frozen K_x2.out 4
              have x25 := (Blk.cell K_x2.out 5).trans (rfl : _ = some (Value.int .i64 (x.eff : Int)))
              have x2f5 := Blk.frozen K_x2.out 5
              go_upto_region 18 with (fail)
              go_region
              clear x20 x2f0 x21 x2f1 x22 x2f2 x23 x2f3 x24 x2f4 x25 x2f5
              clear hat
              have kx : Blk (wc.setCell ⟨w.heap.size + 2, 5, none⟩ (.int .i64 (ef : Int))).drew (w.heap.size + 2) 113 #[.int .i64 (mo : Int), .int .i64 (x.st.run : Int), .slice A N c, .int .i64 (x.st.rej : Int), .slice A2 N2 c2, .int .i64 (ef : Int)] := (K_x2.out.set_ 5 (.int .i64 (ef : Int))).drew
              have ks := (K_s2.out.far (p := ⟨w.heap.size + 2, 5, none⟩) (by show w.heap.size ≠ w.heap.size + 2; omega) (.int .i64 (ef : Int))).drew
              have kr := (K_r2.out.far (p := ⟨w.heap.size + 2, 5, none⟩) (by show w.heap.size + 1 ≠ w.heap.size + 2; omega) (.int .i64 (ef : Int))).drew
              have ky := (K_y.out.far (p := ⟨w.heap.size + 2, 5, none⟩) (by show b12 ≠ w.heap.size + 2; omega) (.int .i64 (ef : Int))).drew
              have hb4 := (HB2.out.setCell (p := ⟨w.heap.size + 2, 5, none⟩) (by show w.heap.size ≤ w.heap.size + 2; omega) (.int .i64 (ef : Int))).drew
              have ow := (ownsRow_setCell_below HOB.out (a := ⟨w.heap.size + 2, 5, none⟩) (by show w.heap.size + 2 < w.heap.size + 3; omega) (.int .i64 (ef : Int))).drew
              have sl4 := HSL9.out.own K_x2.out (nobool6 _ _ _ _ _ _ _ _ _ _) (only_drew (only_setCell (only_refl _ (some (w.heap.size + 2))) (p := ⟨w.heap.size + 2, 5, none⟩) (Or.inl rfl) (.int .i64 (ef : Int))))
              generalize (wc.setCell ⟨w.heap.size + 2, 5, none⟩ (.int .i64 (ef : Int))).drew = w4 at kx ks kr ky hb4 ow sl4 ⊢
              replace K_x2 := hide kx
              replace K_s2 := hide ks
              replace K_r2 := hide kr
              replace K_y := hide ky
              replace HB2 := hide hb4
              replace HOB := hide ow
              replace HSL9 := hide sl4
              clear kx ks kr ky hb4 ow sl4
              have hob := HOB.out.lt
              have hw4s : w.heap.size + 3 ≤ w4.heap.size := by have := Blk.lt K_y.out; omega
              have hap9 := HAP9.out
              have hyd := K_y.out
              have hya := hyd.alloc (.cells #[.bool ok] 4)
              have hxa := K_x2.out.alloc (.cells #[.bool ok] 4)
              have xa0 := (Blk.cell hxa 0).trans (rfl : _ = some (Value.int .i64 (mo : Int)))
              have xa1 := (Blk.cell hxa 1).trans (rfl : _ = some (Value.int .i64 (x.st.run : Int)))
              have xa2 := (Blk.cell hxa 2).trans (rfl : _ = some (Value.slice A N c))
              have xa3 := (Blk.cell hxa 3).trans (rfl : _ = some (Value.int .i64 (x.st.rej : Int)))
              have xa4 := (Blk.cell hxa 4).trans (rfl : _ = some (Value.slice A2 N2 c2))
              have xa5 := (Blk.cell hxa 5).trans (rfl : _ = some (Value.int .i64 (ef : Int)))
              have yd0 := (Blk.cell K_y.out 0).trans (rfl : _ = some (Value.int .i64 (y.mode : Int)))
              have ya0 := (Blk.cell hya 0).trans (rfl : _ = some (Value.int .i64 (y.mode : Int)))
              have yd1 := (Blk.cell K_y.out 1).trans (rfl : _ = some (Value.int .i64 (y.run : Int)))
              have ya1 := (Blk.cell hya 1).trans (rfl : _ = some (Value.int .i64 (y.run : Int)))
              have yd2 := (Blk.cell K_y.out 2).trans (rfl : _ = some (Value.slice A9 N9 c9))
              have ya2 := (Blk.cell hya 2).trans (rfl : _ = some (Value.slice A9 N9 c9))
              have yd3 := (Blk.cell K_y.out 3).trans (rfl : _ = some (Value.int .i64 (y.rej : Int)))
              have ya3 := (Blk.cell hya 3).trans (rfl : _ = some (Value.int .i64 (y.rej : Int)))
              have HYA := hide hya
              have HLB := hide (Blk.lt K_y.out)
              have HOBL := hide hob
              clear hyd hya hxa hob hap9
              have x20 := (Blk.cell K_x2.out 0).trans (rfl : _ = some (Value.int .i64 (mo : Int)))
              have x21 := (Blk.cell K_x2.out 1).trans (rfl : _ = some (Value.int .i64 (x.st.run : Int)))
              have x22 := (Blk.cell K_x2.out 2).trans (rfl : _ = some (Value.slice A N c))
              have x23 := (Blk.cell K_x2.out 3).trans (rfl : _ = some (Value.int .i64 (x.st.rej : Int)))
              have x24 := (Blk.cell K_x2.out 4).trans (rfl : _ = some (Value.slice A2 N2 c2))
              have x25 := (Blk.cell K_x2.out 5).trans (rfl : _ = some (Value.int .i64 (ef : Int)))
              go_upto_region 19 with (fail)
              go_region_law (refine step_append_lies _ (by rfl) _ _ 27 (by rfl) (w.heap.size + 3) 4 i0 (.bool false) 1 1 Tryz.underlying27 hi hz0 hz1 hz2 rfl (by decide) _ x.res.length _ (by rfl) (HOB.out.alloc _) ⟨w4.heap.size, 0, none⟩ 1 1 [.bool ok] (by rfl) rfl (World.news_of_block (cs := #[.bool ok]) (heap_alloc_new _ _)) (by intro u hu; simp at hu; subst hu; rfl) (by omega) (by unfold maxLen; omega) (by omega) (by simp; omega) (w4.heap.size + 1) (by simp) ?_; intro g9 cap9 w9 hown9 hgrow9 hat9 hlt9; have hy9 := (Blk.drew HYA.out).grown hgrow9 (fun e => by have := (HRB.out _ e.symm).2; omega); have hx9 := (Blk.drew (K_x2.out.alloc (.cells #[.bool ok] 4))).grown hgrow9 (fun e => by have := (HOBL.out _ e.symm).1; omega); have yn0 := (Blk.cell hy9 0).trans (rfl : _ = some (Value.int .i64 (y.mode : Int))); have yn1 := (Blk.cell hy9 1).trans (rfl : _ = some (Value.int .i64 (y.run : Int))); have yn2 := (Blk.cell hy9 2).trans (rfl : _ = some (Value.slice A9 N9 c9)); have yn3 := (Blk.cell hy9 3).trans (rfl : _ = some (Value.int .i64 (y.rej : Int))); have xn0 := (Blk.cell hx9 0).trans (rfl : _ = some (Value.int .i64 (mo : Int))); have xf0 := Blk.frozen hx9 0; have xn1 := (Blk.cell hx9 1).trans (rfl : _ = some (Value.int .i64 (x.st.run : Int))); have xf1 := Blk.frozen hx9 1; have xn2 := (Blk.cell hx9 2).trans (rfl : _ = some (Value.slice A N c)); have xf2 := Blk.frozen hx9 2; have xn3 := (Blk.cell hx9 3).trans (rfl : _ = some (Value.int .i64 (x.st.rej : Int))); have xf3 := Blk.frozen hx9 3; have xn4 := (Blk.cell hx9 4).trans (rfl : _ = some (Value.slice A2 N2 c2)); have xf4 := Blk.frozen hx9 4; have xn5 := (Blk.cell hx9 5).trans (rfl : _ = some (Value.int .i64 (ef : Int))); have xf5 := Blk.frozen hx9 5; have HY9 := hide hy9; have HX9 := hide hx9; have HG9 := hide hgrow9; have HO9 := hide hown9; have HA9 := hide hat9; have HL9 := hide hlt9; clear hy9 hx9 hgrow9 hown9 hat9 hlt9)
              all_goals (
                have kx : Blk _ (w.heap.size + 2) 113 #[.int .i64 (y.mode : Int), .int .i64 (y.run : Int), .slice A9 N9 c9, .int .i64 (y.rej : Int), .slice (some ⟨g9, 0, none⟩) (x.res.length + 1) cap9, .int .i64 (ef : Int)] := (((((HX9.out.set_ 0 (.int .i64 (y.mode : Int))).set_ 1 (.int .i64 (y.run : Int))).set_ 2 (.slice A9 N9 c9)).set_ 3 (.int .i64 (y.rej : Int))).set_ 4 (.slice (some ⟨g9, 0, none⟩) (x.res.length + 1) cap9))
                have ks := (((((((Blk.drew (K_s2.out.alloc (.cells #[.bool ok] 4))).grown HG9.out (fun e => by have := (HOBL.out _ e.symm).1; omega)).far (p := ⟨w.heap.size + 2, 0, none⟩) (by show w.heap.size ≠ w.heap.size + 2; omega) (.int .i64 (y.mode : Int))).far (p := ⟨w.heap.size + 2, 1, none⟩) (by show w.heap.size ≠ w.heap.size + 2; omega) (.int .i64 (y.run : Int))).far (p := ⟨w.heap.size + 2, 2, none⟩) (by show w.heap.size ≠ w.heap.size + 2; omega) (.slice A9 N9 c9)).far (p := ⟨w.heap.size + 2, 3, none⟩) (by show w.heap.size ≠ w.heap.size + 2; omega) (.int .i64 (y.rej : Int))).far (p := ⟨w.heap.size + 2, 4, none⟩) (by show w.heap.size ≠ w.heap.size + 2; omega) (.slice (some ⟨g9, 0, none⟩) (x.res.length + 1) cap9))
                have kr := (((((((Blk.drew (K_r2.out.alloc (.cells #[.bool ok] 4))).grown HG9.out (fun e => by have := (HOBL.out _ e.symm).1; omega)).far (p := ⟨w.heap.size + 2, 0, none⟩) (by show w.heap.size + 1 ≠ w.heap.size + 2; omega) (.int .i64 (y.mode : Int))).far (p := ⟨w.heap.size + 2, 1, none⟩) (by show w.heap.size + 1 ≠ w.heap.size + 2; omega) (.int .i64 (y.run : Int))).far (p := ⟨w.heap.size + 2, 2, none⟩) (by show w.heap.size + 1 ≠ w.heap.size + 2; omega) (.slice A9 N9 c9)).far (p := ⟨w.heap.size + 2, 3, none⟩) (by show w.heap.size + 1 ≠ w.heap.size + 2; omega) (.int .i64 (y.rej : Int))).far (p := ⟨w.heap.size + 2, 4, none⟩) (by show w.heap.size + 1 ≠ w.heap.size + 2; omega) (.slice (some ⟨g9, 0, none⟩) (x.res.length + 1) cap9))
                have hb := ((((((((HB2.out.alloc HB2.out.size (.cells #[.bool ok] 4)).drew).grown HG9.out (by simp; have := HB2.out.size; omega) (fun k e => by have := (HOBL.out k e).1; omega)).setCell (p := ⟨w.heap.size + 2, 0, none⟩) (by show w.heap.size ≤ w.heap.size + 2; omega) (.int .i64 (y.mode : Int))).setCell (p := ⟨w.heap.size + 2, 1, none⟩) (by show w.heap.size ≤ w.heap.size + 2; omega) (.int .i64 (y.run : Int))).setCell (p := ⟨w.heap.size + 2, 2, none⟩) (by show w.heap.size ≤ w.heap.size + 2; omega) (.slice A9 N9 c9)).setCell (p := ⟨w.heap.size + 2, 3, none⟩) (by show w.heap.size ≤ w.heap.size + 2; omega) (.int .i64 (y.rej : Int))).setCell (p := ⟨w.heap.size + 2, 4, none⟩) (by show w.heap.size ≤ w.heap.size + 2; omega) (.slice (some ⟨g9, 0, none⟩) (x.res.length + 1) cap9))
                have ow := (ownsRow_setCell_below (ownsRow_setCell_below (ownsRow_setCell_below (ownsRow_setCell_below (ownsRow_setCell_below HO9.out (a := ⟨w.heap.size + 2, 0, none⟩) (by show w.heap.size + 2 < w.heap.size + 3; omega) (.int .i64 (y.mode : Int))) (a := ⟨w.heap.size + 2, 1, none⟩) (by show w.heap.size + 2 < w.heap.size + 3; omega) (.int .i64 (y.run : Int))) (a := ⟨w.heap.size + 2, 2, none⟩) (by show w.heap.size + 2 < w.heap.size + 3; omega) (.slice A9 N9 c9)) (a := ⟨w.heap.size + 2, 3, none⟩) (by show w.heap.size + 2 < w.heap.size + 3; omega) (.int .i64 (y.rej : Int))) (a := ⟨w.heap.size + 2, 4, none⟩) (by show w.heap.size + 2 < w.heap.size + 3; omega) (.slice (some ⟨g9, 0, none⟩) (x.res.length + 1) cap9))
                have sl := ((((HSL9.out.below (nalcW w4 (.cells #[.bool ok] 4))).below (Below.refl _ _).drew).grownA HG9.out (fun g o n c h => HAP9.out g o n c h)).own HX9.out (nobool6 _ _ _ _ _ _ _ _ _ _) (only_setCell (only_setCell (only_setCell (only_setCell (only_setCell (only_refl _ (some (w.heap.size + 2))) (p := ⟨w.heap.size + 2, 0, none⟩) (Or.inl rfl) (.int .i64 (y.mode : Int))) (p := ⟨w.heap.size + 2, 1, none⟩) (Or.inl rfl) (.int .i64 (y.run : Int))) (p := ⟨w.heap.size + 2, 2, none⟩) (Or.inl rfl) (.slice A9 N9 c9)) (p := ⟨w.heap.size + 2, 3, none⟩) (Or.inl rfl) (.int .i64 (y.rej : Int))) (p := ⟨w.heap.size + 2, 4, none⟩) (Or.inl rfl) (.slice (some ⟨g9, 0, none⟩) (x.res.length + 1) cap9)))
                have ap : ApartV (.slice A9 N9 c9) (.slice (some ⟨g9, 0, none⟩) (x.res.length + 1) cap9) := fun g o n c h e => by
                  have h9 : g9 = g := by simpa [Value.ownBlock] using e
                  rcases HA9.out with h2 | h2
                  · exact HAP9.out g o n c h (by rw [h2, h9])
                  · have h4 := HSL9.out
                    rw [h] at h4
                    have h5 := h4.lt
                    omega
                have hs9 : w.heap.size + 3 ≤ w9.heap.size := by have := HG9.out.size; simp at this; omega
                rw [bcl_snoc] at ow
                have KX := hide kx
                have KS := hide ks
                have KR := hide kr
                have HBX := hide hb
                have OWX := hide ow
                have SLX := hide sl
                have APX := hide ap
                have HSX9 := hide hs9
                clear kx ks kr hb ow sl ap hs9
                go_wp2_with fail
                go_roundg (gk - 1)
                case measure => have := HQ.out; omega
                case rel => exact ⟨j + 1, ⟨y, x.res ++ [ok], ef⟩, A9, N9, c9, some ⟨g9, 0, none⟩, x.res.length + 1, cap9, by go_num, by have := HQ.out; omega, HGO2.out.trans (by rw [HST.out]), HGR.out, by rw [HRL2.out]; omega, HEF2.out, by rw [HRL2.out]; exact OWX.out, KX.out, SLX.out, APX.out, KR.out, KS.out, HBX.out, by have := HSX9.out; simpa using this⟩
              )
    · clear hrules
      have hji : ¬ (j : Int) < (n : Int) := by omega
      have hjn : j = n := by omega
      have HG := hide (HGO.out.trans (show goC (ruN S) (L.drop j) j x = .inl x by rw [List.drop_eq_nil_of_le (by rw [HN.out]; omega)]; rfl))
      clear HGO HLC
      have x20 := (Blk.cell K_x2.out 0).trans (rfl : _ = some (Value.int .i64 (x.st.mode : Int)))
      have x21 := (Blk.cell K_x2.out 1).trans (rfl : _ = some (Value.int .i64 (x.st.run : Int)))
      have x22 := (Blk.cell K_x2.out 2).trans (rfl : _ = some (Value.slice A N c))
      have x23 := (Blk.cell K_x2.out 3).trans (rfl : _ = some (Value.int .i64 (x.st.rej : Int)))
      have x24 := (Blk.cell K_x2.out 4).trans (rfl : _ = some (Value.slice A2 N2 c2))
      have x25 := (Blk.cell K_x2.out 5).trans (rfl : _ = some (Value.int .i64 (x.eff : Int)))
      have r20 := (Blk.cell K_r2.out 0).trans (rfl : _ = some (Value.int .i64 0))
      have r2f0 := Blk.frozen K_r2.out 0
      have r21 := (Blk.cell K_r2.out 1).trans (rfl : _ = some (Value.int .i64 0))
      have r2f1 := Blk.frozen K_r2.out 1
      have r22 := (Blk.cell K_r2.out 2).trans (rfl : _ = some (Value.slice none 0 0))
      have r2f2 := Blk.frozen K_r2.out 2
      have r23 := (Blk.cell K_r2.out 3).trans (rfl : _ = some (Value.int .i64 0))
      have r2f3 := Blk.frozen K_r2.out 3
      have r24 := (Blk.cell K_r2.out 4).trans (rfl : _ = some (Value.slice none 0 0))
      have r2f4 := Blk.frozen K_r2.out 4
      have r25 := (Blk.cell K_r2.out 5).trans (rfl : _ = some (Value.int .i64 0))
      have r2f5 := Blk.frozen K_r2.out 5
      go_wp2_with fail
      have kf : Blk _ (w.heap.size + 1) 113 #[.int .i64 (x.st.mode : Int), .int .i64 (x.st.run : Int), .slice A N c, .int .i64 (x.st.rej : Int), .slice A2 N2 c2, .int .i64 (x.eff : Int)] := ((((((K_r2.out.set_ 0 (.int .i64 (x.st.mode : Int))).set_ 1 (.int .i64 (x.st.run : Int))).set_ 2 (.slice A N c)).set_ 3 (.int .i64 (x.st.rej : Int))).set_ 4 (.slice A2 N2 c2)).set_ 5 (.int .i64 (x.eff : Int)))
      have rc0 := (Blk.cell kf 0).trans (rfl : _ = some (Value.int .i64 (x.st.mode : Int)))
      have rc1 := (Blk.cell kf 1).trans (rfl : _ = some (Value.int .i64 (x.st.run : Int)))
      have rc2 := (Blk.cell kf 2).trans (rfl : _ = some (Value.slice A N c))
      have rc3 := (Blk.cell kf 3).trans (rfl : _ = some (Value.int .i64 (x.st.rej : Int)))
      have rc4 := (Blk.cell kf 4).trans (rfl : _ = some (Value.slice A2 N2 c2))
      have rc5 := (Blk.cell kf 5).trans (rfl : _ = some (Value.int .i64 (x.eff : Int)))
      exact bodyPost_ret (v := .tuple #[.agg #[.int .i64 (x.st.mode : Int), .int .i64 (x.st.run : Int), .slice A N c, .int .i64 (x.st.rej : Int), .slice A2 N2 c2, .int .i64 (x.eff : Int)], .int .i64 0, .int .i64 0]) (by simp [results, Tryz.results61, go_sem, rc0, rc1, rc2, rc3, rc4, rc5]) rfl (WentP.good HG.out rfl ⟨_, _, rfl, HSL.out.own K_r2.out (nobool6 _ _ _ _ _ _ _ _ _ _) (only_setCell (only_setCell (only_setCell (only_setCell (only_setCell (only_setCell (only_refl _ (some ((w.heap.size + 1)))) (p := ⟨(w.heap.size + 1), 0, none⟩) (Or.inl rfl) (.int .i64 (x.st.mode : Int))) (p := ⟨(w.heap.size + 1), 1, none⟩) (Or.inl rfl) (.int .i64 (x.st.run : Int))) (p := ⟨(w.heap.size + 1), 2, none⟩) (Or.inl rfl) (.slice A N c)) (p := ⟨(w.heap.size + 1), 3, none⟩) (Or.inl rfl) (.int .i64 (x.st.rej : Int))) (p := ⟨(w.heap.size + 1), 4, none⟩) (Or.inl rfl) (.slice A2 N2 c2)) (p := ⟨(w.heap.size + 1), 5, none⟩) (Or.inl rfl) (.int .i64 (x.eff : Int))), SlL.of_row (ownsRow_setCell_below (ownsRow_setCell_below (ownsRow_setCell_below (ownsRow_setCell_below (ownsRow_setCell_below (ownsRow_setCell_below HOW.out (a := ⟨(w.heap.size + 1), 0, none⟩) (by show w.heap.size + 1 < w.heap.size + 3; omega) (.int .i64 (x.st.mode : Int))) (a := ⟨(w.heap.size + 1), 1, none⟩) (by show w.heap.size + 1 < w.heap.size + 3; omega) (.int .i64 (x.st.run : Int))) (a := ⟨(w.heap.size + 1), 2, none⟩) (by show w.heap.size + 1 < w.heap.size + 3; omega) (.slice A N c)) (a := ⟨(w.heap.size + 1), 3, none⟩) (by show w.heap.size + 1 < w.heap.size + 3; omega) (.int .i64 (x.st.rej : Int))) (a := ⟨(w.heap.size + 1), 4, none⟩) (by show w.heap.size + 1 < w.heap.size + 3; omega) (.slice A2 N2 c2)) (a := ⟨(w.heap.size + 1), 5, none⟩) (by show w.heap.size + 1 < w.heap.size + 3; omega) (.int .i64 (x.eff : Int))) (by rw [bcl_len])⟩ ((((((HB2.out.setCell (p := ⟨(w.heap.size + 1), 0, none⟩) (by show w.heap.size ≤ w.heap.size + 1; omega) (.int .i64 (x.st.mode : Int))).setCell (p := ⟨(w.heap.size + 1), 1, none⟩) (by show w.heap.size ≤ w.heap.size + 1; omega) (.int .i64 (x.st.run : Int))).setCell (p := ⟨(w.heap.size + 1), 2, none⟩) (by show w.heap.size ≤ w.heap.size + 1; omega) (.slice A N c)).setCell (p := ⟨(w.heap.size + 1), 3, none⟩) (by show w.heap.size ≤ w.heap.size + 1; omega) (.int .i64 (x.st.rej : Int))).setCell (p := ⟨(w.heap.size + 1), 4, none⟩) (by show w.heap.size ≤ w.heap.size + 1; omega) (.slice A2 N2 c2)).setCell (p := ⟨(w.heap.size + 1), 5, none⟩) (by show w.heap.size ≤ w.heap.size + 1; omega) (.int .i64 (x.eff : Int))))
end Go.Proofs.YthmmgjieppknkaaGreatDoor

namespace Go.Proofs.YthmmgjieppknkaaGreatDoor
open Go.RowKit MLab
theorem went_all (w : World) (S : Nat → Int × Int) (v : Value) (L : List Int) (hv : SlL w v (zcl L)) : Calls Tryz.prog 61 #[schV S, v] w (WentP w (runG S L)) := by
  unfold runG
  by_cases h : ckS S ≠ 0
  · rw [if_pos h]
    exact (went_bad w S v h).mono (fun e w' h => WentP.err rfl h.1 h.2)
  · rw [if_neg h]
    have h0 := Classical.not_not.1 h
    by_cases hl : 4096 < L.length
    · rw [if_pos hl]
      obtain ⟨A, c, rfl, _⟩ := hv
      rw [zcl_len]
      exact (went_many w S A L.length c h0 hl).mono (fun e w' h => WentP.err rfl h.1 h.2)
    · rw [if_neg hl]
      exact went_any w S v L hv h0 (by omega)
set_option maxRecDepth 100000 in
set_option maxHeartbeats 4000000 in
theorem swrun_err (w : World) (S : Nat → Int × Int) (v : Value) (L : List Int) (i : Nat) (z : Int) (hv : SlL w v (zcl L)) (hg : runG S L = .inr (i, z)) (hz : z ≠ 0) :
    Calls Tryz.prog 27 #[schV S, v] w fun e w' => e = .returned (.tuple #[.agg #[.int .i64 0, .int .i64 0, .slice none 0 0, .int .i64 0], .slice none 0 0, .int .i64 (i : Int), .int .i64 z]) ∧ Below w.heap.size w w' := by
  have HG := hide (fun (W : World) (h : SlL W v (zcl L)) => run_all W S v L h)
  rw [hg] at HG
  unfold RunP at HG
  have HV := hide hv
  unfold schV at HG ⊢
  clear hg hv
  have hzi : (z == 0) = false := by simpa using hz
  have HZ := hide hz
  clear hz
  have HB := allocs_below w [.cells #[.int .i64 (S 0).1, .int .i64 (S 0).2, .int .i64 (S 1).1, .int .i64 (S 1).2, .int .i64 (S 2).1, .int .i64 (S 2).2] 26, .cells #[.int .i64 0, .int .i64 0, .slice none 0 0, .int .i64 0] 29]
  have K_s : Blk (allocs w [.cells #[.int .i64 (S 0).1, .int .i64 (S 0).2, .int .i64 (S 1).1, .int .i64 (S 1).2, .int .i64 (S 2).1, .int .i64 (S 2).2] 26, .cells #[.int .i64 0, .int .i64 0, .slice none 0 0, .int .i64 0] 29]) (w.heap.size + 0) 26 #[.int .i64 (S 0).1, .int .i64 (S 0).2, .int .i64 (S 1).1, .int .i64 (S 1).2, .int .i64 (S 2).1, .int .i64 (S 2).2] := allocs_at w [.cells #[.int .i64 (S 0).1, .int .i64 (S 0).2, .int .i64 (S 1).1, .int .i64 (S 1).2, .int .i64 (S 2).1, .int .i64 (S 2).2] 26, .cells #[.int .i64 0, .int .i64 0, .slice none 0 0, .int .i64 0] 29] 0 rfl
  have K_r : Blk (allocs w [.cells #[.int .i64 (S 0).1, .int .i64 (S 0).2, .int .i64 (S 1).1, .int .i64 (S 1).2, .int .i64 (S 2).1, .int .i64 (S 2).2] 26, .cells #[.int .i64 0, .int .i64 0, .slice none 0 0, .int .i64 0] 29]) (w.heap.size + 1) 29 #[.int .i64 0, .int .i64 0, .slice none 0 0, .int .i64 0] := allocs_at w [.cells #[.int .i64 (S 0).1, .int .i64 (S 0).2, .int .i64 (S 1).1, .int .i64 (S 1).2, .int .i64 (S 2).1, .int .i64 (S 2).2] 26, .cells #[.int .i64 0, .int .i64 0, .slice none 0 0, .int .i64 0] 29] 1 rfl
  unfold allocs at HB K_s K_r
  simp only [List.foldl_cons, List.foldl_nil] at HB K_s K_r
  rw [Nat.add_zero] at K_s
  go_enter Tryz.func27, Tryz.ntmps27
  go_upto_region 1 with (fail)
  generalize ((w.alloc (.cells #[.int .i64 (S 0).1, .int .i64 (S 0).2, .int .i64 (S 1).1, .int .i64 (S 1).2, .int .i64 (S 2).1, .int .i64 (S 2).2] 26)).alloc (.cells #[.int .i64 0, .int .i64 0, .slice none 0 0, .int .i64 0] 29)) = w0 at *
  replace K_s := hide K_s
  replace K_r := hide K_r
  replace HB := hide HB
  have s0 := (Blk.cell K_s.out 0).trans (rfl : _ = some (Value.int .i64 (S 0).1))
  have s1 := (Blk.cell K_s.out 1).trans (rfl : _ = some (Value.int .i64 (S 0).2))
  have s2 := (Blk.cell K_s.out 2).trans (rfl : _ = some (Value.int .i64 (S 1).1))
  have s3 := (Blk.cell K_s.out 3).trans (rfl : _ = some (Value.int .i64 (S 1).2))
  have s4 := (Blk.cell K_s.out 4).trans (rfl : _ = some (Value.int .i64 (S 2).1))
  have s5 := (Blk.cell K_s.out 5).trans (rfl : _ = some (Value.int .i64 (S 2).2))
  go_wp2_with fail
  refine (HG.out _ (HV.out.below HB.out)).mono ?_
  rintro e wb ⟨rfl, hb⟩
  clear s0 s1 s2 s3 s4 s5
  replace K_s := hide (Blk.below K_s.out hb (Blk.lt K_s.out))
  replace K_r := hide (Blk.below K_r.out hb (Blk.lt K_r.out))
  replace HB := hide (HB.out.trans (hb.mono HB.out.size))
  clear hb
  go_upto_region 2 with (fail)
  have hbs := HB.out.size
  have kx := Blk.new wb 29 #[.int .i64 0, .int .i64 0, .slice none 0 0, .int .i64 0]
  have hb4 := HB.out.alloc hbs (.cells #[.int .i64 0, .int .i64 0, .slice none 0 0, .int .i64 0] 29)
  have kr := K_r.out.alloc (.cells #[.int .i64 0, .int .i64 0, .slice none 0 0, .int .i64 0] 29)
  generalize wb.alloc (.cells #[.int .i64 0, .int .i64 0, .slice none 0 0, .int .i64 0] 29) = w4 at kx hb4 kr ⊢
  have K_x := hide kx
  replace HB := hide hb4
  replace K_r := hide kr
  clear kx hb4 kr
  have x0 := (Blk.cell K_x.out 0).trans (rfl : _ = some (Value.int .i64 0))
  have x1 := (Blk.cell K_x.out 1).trans (rfl : _ = some (Value.int .i64 0))
  have x2 := (Blk.cell K_x.out 2).trans (rfl : _ = some (Value.slice none 0 0))
  have x3 := (Blk.cell K_x.out 3).trans (rfl : _ = some (Value.int .i64 0))
  have r0 := (Blk.cell K_r.out 0).trans (rfl : _ = some (Value.int .i64 0))
  have rf0 := Blk.frozen K_r.out 0
  have r1 := (Blk.cell K_r.out 1).trans (rfl : _ = some (Value.int .i64 0))
  have rf1 := Blk.frozen K_r.out 1
  have r2 := (Blk.cell K_r.out 2).trans (rfl : _ = some (Value.slice none 0 0))
  have rf2 := Blk.frozen K_r.out 2
  have r3 := (Blk.cell K_r.out 3).trans (rfl : _ = some (Value.int .i64 0))
  have rf3 := Blk.frozen K_r.out 3
  go_wp2_with fail
  have rc0 := (Blk.cell ((((K_r.out.set_ 0 (.int .i64 0)).set_ 1 (.int .i64 0)).set_ 2 (.slice none 0 0)).set_ 3 (.int .i64 0)) 0).trans (rfl : _ = some (Value.int .i64 0))
  have rc1 := (Blk.cell ((((K_r.out.set_ 0 (.int .i64 0)).set_ 1 (.int .i64 0)).set_ 2 (.slice none 0 0)).set_ 3 (.int .i64 0)) 1).trans (rfl : _ = some (Value.int .i64 0))
  have rc2 := (Blk.cell ((((K_r.out.set_ 0 (.int .i64 0)).set_ 1 (.int .i64 0)).set_ 2 (.slice none 0 0)).set_ 3 (.int .i64 0)) 2).trans (rfl : _ = some (Value.slice none 0 0))
  have rc3 := (Blk.cell ((((K_r.out.set_ 0 (.int .i64 0)).set_ 1 (.int .i64 0)).set_ 2 (.slice none 0 0)).set_ 3 (.int .i64 0)) 3).trans (rfl : _ = some (Value.int .i64 0))
  exact bodyPost_ret (v := .tuple #[.agg #[.int .i64 0, .int .i64 0, .slice none 0 0, .int .i64 0], .slice none 0 0, .int .i64 (i : Int), .int .i64 z]) (by simp [results, Tryz.results27, go_sem, rc0, rc1, rc2, rc3]) rfl ⟨rfl, ((((HB.out.setCell (p := ⟨(w.heap.size + 1), 0, none⟩) (by show w.heap.size ≤ (w.heap.size + 1); omega) (.int .i64 0)).setCell (p := ⟨(w.heap.size + 1), 1, none⟩) (by show w.heap.size ≤ (w.heap.size + 1); omega) (.int .i64 0)).setCell (p := ⟨(w.heap.size + 1), 2, none⟩) (by show w.heap.size ≤ (w.heap.size + 1); omega) (.slice none 0 0)).setCell (p := ⟨(w.heap.size + 1), 3, none⟩) (by show w.heap.size ≤ (w.heap.size + 1); omega) (.int .i64 0))⟩
set_option maxRecDepth 100000 in
set_option maxHeartbeats 4000000 in
theorem sweffort_err (w : World) (S : Nat → Int × Int) (v : Value) (L : List Int) (i : Nat) (z : Int) (hv : SlL w v (zcl L)) (hg : runG S L = .inr (i, z)) (hz : z ≠ 0) :
    Calls Tryz.prog 29 #[schV S, v] w fun e w' => e = .returned (.tuple #[.int .i64 0, .int .i64 z]) ∧ Below w.heap.size w w' := by
  have HG := hide (fun (W : World) (h : SlL W v (zcl L)) => run_all W S v L h)
  rw [hg] at HG
  unfold RunP at HG
  have HV := hide hv
  unfold schV at HG ⊢
  clear hg hv
  have hzi : (z == 0) = false := by simpa using hz
  have HZ := hide hz
  clear hz
  have HB := allocs_below w [.cells #[.int .i64 (S 0).1, .int .i64 (S 0).2, .int .i64 (S 1).1, .int .i64 (S 1).2, .int .i64 (S 2).1, .int .i64 (S 2).2] 26]
  have K_s : Blk (allocs w [.cells #[.int .i64 (S 0).1, .int .i64 (S 0).2, .int .i64 (S 1).1, .int .i64 (S 1).2, .int .i64 (S 2).1, .int .i64 (S 2).2] 26]) (w.heap.size + 0) 26 #[.int .i64 (S 0).1, .int .i64 (S 0).2, .int .i64 (S 1).1, .int .i64 (S 1).2, .int .i64 (S 2).1, .int .i64 (S 2).2] := allocs_at w [.cells #[.int .i64 (S 0).1, .int .i64 (S 0).2, .int .i64 (S 1).1, .int .i64 (S 1).2, .int .i64 (S 2).1, .int .i64 (S 2).2] 26] 0 rfl
  unfold allocs at HB K_s
  simp only [List.foldl_cons, List.foldl_nil] at HB K_s
  rw [Nat.add_zero] at K_s
  go_enter Tryz.func29, Tryz.ntmps29
  go_upto_region 1 with (fail)
  generalize (w.alloc (.cells #[.int .i64 (S 0).1, .int .i64 (S 0).2, .int .i64 (S 1).1, .int .i64 (S 1).2, .int .i64 (S 2).1, .int .i64 (S 2).2] 26)) = w0 at *
  replace K_s := hide K_s
  replace HB := hide HB
  have s0 := (Blk.cell K_s.out 0).trans (rfl : _ = some (Value.int .i64 (S 0).1))
  have s1 := (Blk.cell K_s.out 1).trans (rfl : _ = some (Value.int .i64 (S 0).2))
  have s2 := (Blk.cell K_s.out 2).trans (rfl : _ = some (Value.int .i64 (S 1).1))
  have s3 := (Blk.cell K_s.out 3).trans (rfl : _ = some (Value.int .i64 (S 1).2))
  have s4 := (Blk.cell K_s.out 4).trans (rfl : _ = some (Value.int .i64 (S 2).1))
  have s5 := (Blk.cell K_s.out 5).trans (rfl : _ = some (Value.int .i64 (S 2).2))
  go_wp2_with fail
  refine (HG.out _ (HV.out.below HB.out)).mono ?_
  rintro e wb ⟨rfl, hb⟩
  clear s0 s1 s2 s3 s4 s5
  replace K_s := hide (Blk.below K_s.out hb (Blk.lt K_s.out))
  replace HB := hide (HB.out.trans (hb.mono HB.out.size))
  clear hb
  go_upto_region 2 with (fail)
  have hbs := HB.out.size
  have kx := Blk.new wb 29 #[.int .i64 0, .int .i64 0, .slice none 0 0, .int .i64 0]
  have hb4 := HB.out.alloc hbs (.cells #[.int .i64 0, .int .i64 0, .slice none 0 0, .int .i64 0] 29)
  generalize wb.alloc (.cells #[.int .i64 0, .int .i64 0, .slice none 0 0, .int .i64 0] 29) = w4 at kx hb4  ⊢
  have K_x := hide kx
  replace HB := hide hb4
  clear kx hb4
  have x0 := (Blk.cell K_x.out 0).trans (rfl : _ = some (Value.int .i64 0))
  have x1 := (Blk.cell K_x.out 1).trans (rfl : _ = some (Value.int .i64 0))
  have x2 := (Blk.cell K_x.out 2).trans (rfl : _ = some (Value.slice none 0 0))
  have x3 := (Blk.cell K_x.out 3).trans (rfl : _ = some (Value.int .i64 0))
  go_wp2_with fail
  go_ret2
  exact ⟨rfl, HB.out⟩
set_option maxRecDepth 100000 in
set_option maxHeartbeats 4000000 in
theorem rswrun_ok (w : World) (S : Nat → Int × Int) (v : Value) (L : List Int) (c : Cr) (hv : SlL w v (zcl L)) (hg : runG S L = .inl c) :
    Calls Tryz.prog 28 #[schV S, v] w fun e w' => (∃ u rs, e = .returned (.tuple #[u, rs, .int .i64 0, .int .i64 0]) ∧ StV w' u c.st ∧ SlL w' rs (bcl c.res)) ∧ Below w.heap.size w w' := by
  have HG := hide (fun (W : World) (h : SlL W v (zcl L)) => went_all W S v L h)
  rw [hg] at HG
  unfold WentP at HG
  have HV := hide hv
  unfold schV at HG ⊢
  clear hg hv
  have HB := allocs_below w [.cells #[.int .i64 (S 0).1, .int .i64 (S 0).2, .int .i64 (S 1).1, .int .i64 (S 1).2, .int .i64 (S 2).1, .int .i64 (S 2).2] 43, .cells #[.int .i64 0, .int .i64 0, .slice none 0 0, .int .i64 0] 34]
  have K_s : Blk (allocs w [.cells #[.int .i64 (S 0).1, .int .i64 (S 0).2, .int .i64 (S 1).1, .int .i64 (S 1).2, .int .i64 (S 2).1, .int .i64 (S 2).2] 43, .cells #[.int .i64 0, .int .i64 0, .slice none 0 0, .int .i64 0] 34]) (w.heap.size + 0) 43 #[.int .i64 (S 0).1, .int .i64 (S 0).2, .int .i64 (S 1).1, .int .i64 (S 1).2, .int .i64 (S 2).1, .int .i64 (S 2).2] := allocs_at w [.cells #[.int .i64 (S 0).1, .int .i64 (S 0).2, .int .i64 (S 1).1, .int .i64 (S 1).2, .int .i64 (S 2).1, .int .i64 (S 2).2] 43, .cells #[.int .i64 0, .int .i64 0, .slice none 0 0, .int .i64 0] 34] 0 rfl
  have K_r : Blk (allocs w [.cells #[.int .i64 (S 0).1, .int .i64 (S 0).2, .int .i64 (S 1).1, .int .i64 (S 1).2, .int .i64 (S 2).1, .int .i64 (S 2).2] 43, .cells #[.int .i64 0, .int .i64 0, .slice none 0 0, .int .i64 0] 34]) (w.heap.size + 1) 34 #[.int .i64 0, .int .i64 0, .slice none 0 0, .int .i64 0] := allocs_at w [.cells #[.int .i64 (S 0).1, .int .i64 (S 0).2, .int .i64 (S 1).1, .int .i64 (S 1).2, .int .i64 (S 2).1, .int .i64 (S 2).2] 43, .cells #[.int .i64 0, .int .i64 0, .slice none 0 0, .int .i64 0] 34] 1 rfl
  unfold allocs at HB K_s K_r
  simp only [List.foldl_cons, List.foldl_nil] at HB K_s K_r
  rw [Nat.add_zero] at K_s
  go_enter Tryz.func28, Tryz.ntmps28
  go_upto_region 1 with (fail)
  generalize ((w.alloc (.cells #[.int .i64 (S 0).1, .int .i64 (S 0).2, .int .i64 (S 1).1, .int .i64 (S 1).2, .int .i64 (S 2).1, .int .i64 (S 2).2] 43)).alloc (.cells #[.int .i64 0, .int .i64 0, .slice none 0 0, .int .i64 0] 34)) = w0 at *
  replace K_s := hide K_s
  replace K_r := hide K_r
  replace HB := hide HB
  have s0 := (Blk.cell K_s.out 0).trans (rfl : _ = some (Value.int .i64 (S 0).1))
  have s1 := (Blk.cell K_s.out 1).trans (rfl : _ = some (Value.int .i64 (S 0).2))
  have s2 := (Blk.cell K_s.out 2).trans (rfl : _ = some (Value.int .i64 (S 1).1))
  have s3 := (Blk.cell K_s.out 3).trans (rfl : _ = some (Value.int .i64 (S 1).2))
  have s4 := (Blk.cell K_s.out 4).trans (rfl : _ = some (Value.int .i64 (S 2).1))
  have s5 := (Blk.cell K_s.out 5).trans (rfl : _ = some (Value.int .i64 (S 2).2))
  go_wp2_with fail
  refine (HG.out _ (HV.out.below HB.out)).mono ?_
  rintro e wb ⟨u, rfl, hco, hb⟩
  obtain ⟨sl, rs, rfl, hsl, hrs⟩ := hco
  obtain ⟨A, N, cc, rfl⟩ := hsl.shape3
  obtain ⟨A2, N2, c2, rfl⟩ := hrs.shape3
  have HSL := hide hsl
  have HRS := hide hrs
  clear hsl hrs
  clear s0 s1 s2 s3 s4 s5
  replace K_s := hide (Blk.below K_s.out hb (Blk.lt K_s.out))
  replace K_r := hide (Blk.below K_r.out hb (Blk.lt K_r.out))
  replace HB := hide (HB.out.trans (hb.mono HB.out.size))
  clear hb
  have sl2 := HSL.out.below (nalcW wb (.cells #[.int .i64 (c.st.mode : Int), .int .i64 (c.st.run : Int), .slice A N cc, .int .i64 (c.st.rej : Int), .slice A2 N2 c2, .int .i64 (c.eff : Int)] 113))
  have rs2 := HRS.out.below (nalcW wb (.cells #[.int .i64 (c.st.mode : Int), .int .i64 (c.st.run : Int), .slice A N cc, .int .i64 (c.st.rej : Int), .slice A2 N2 c2, .int .i64 (c.eff : Int)] 113))
  go_upto_region 2 with (fail)
  have hbs := HB.out.size
  have kx := Blk.new wb 113 #[.int .i64 (c.st.mode : Int), .int .i64 (c.st.run : Int), .slice A N cc, .int .i64 (c.st.rej : Int), .slice A2 N2 c2, .int .i64 (c.eff : Int)]
  have hb4 := HB.out.alloc hbs (.cells #[.int .i64 (c.st.mode : Int), .int .i64 (c.st.run : Int), .slice A N cc, .int .i64 (c.st.rej : Int), .slice A2 N2 c2, .int .i64 (c.eff : Int)] 113)
  have kr := K_r.out.alloc (.cells #[.int .i64 (c.st.mode : Int), .int .i64 (c.st.run : Int), .slice A N cc, .int .i64 (c.st.rej : Int), .slice A2 N2 c2, .int .i64 (c.eff : Int)] 113)
  generalize wb.alloc (.cells #[.int .i64 (c.st.mode : Int), .int .i64 (c.st.run : Int), .slice A N cc, .int .i64 (c.st.rej : Int), .slice A2 N2 c2, .int .i64 (c.eff : Int)] 113) = w4 at sl2 rs2 kx hb4 kr ⊢
  have HSL2 := hide sl2
  have HRS2 := hide rs2
  have K_x := hide kx
  replace HB := hide hb4
  replace K_r := hide kr
  clear sl2 rs2 kx hb4 kr
  have x0 := (Blk.cell K_x.out 0).trans (rfl : _ = some (Value.int .i64 (c.st.mode : Int)))
  have x1 := (Blk.cell K_x.out 1).trans (rfl : _ = some (Value.int .i64 (c.st.run : Int)))
  have x2 := (Blk.cell K_x.out 2).trans (rfl : _ = some (Value.slice A N cc))
  have x3 := (Blk.cell K_x.out 3).trans (rfl : _ = some (Value.int .i64 (c.st.rej : Int)))
  have x4 := (Blk.cell K_x.out 4).trans (rfl : _ = some (Value.slice A2 N2 c2))
  have x5 := (Blk.cell K_x.out 5).trans (rfl : _ = some (Value.int .i64 (c.eff : Int)))
  have r0 := (Blk.cell K_r.out 0).trans (rfl : _ = some (Value.int .i64 0))
  have rf0 := Blk.frozen K_r.out 0
  have r1 := (Blk.cell K_r.out 1).trans (rfl : _ = some (Value.int .i64 0))
  have rf1 := Blk.frozen K_r.out 1
  have r2 := (Blk.cell K_r.out 2).trans (rfl : _ = some (Value.slice none 0 0))
  have rf2 := Blk.frozen K_r.out 2
  have r3 := (Blk.cell K_r.out 3).trans (rfl : _ = some (Value.int .i64 0))
  have rf3 := Blk.frozen K_r.out 3
  go_upto_region 4 with (fail)
  go_region
  go_wp2_with fail
  have kf : Blk _ (w.heap.size + 1) 34 #[.int .i64 (c.st.mode : Int), .int .i64 (c.st.run : Int), .slice A N cc, .int .i64 (c.st.rej : Int)] := (((((K_r.out.set_ 0 (.int .i64 (c.st.mode : Int))).set_ 1 (.int .i64 (c.st.run : Int))).set_ 2 (.slice A N cc)).set_ 3 (.int .i64 (c.st.rej : Int)))).drew
  have rc0 := (Blk.cell kf 0).trans (rfl : _ = some (Value.int .i64 (c.st.mode : Int)))
  have rc1 := (Blk.cell kf 1).trans (rfl : _ = some (Value.int .i64 (c.st.run : Int)))
  have rc2 := (Blk.cell kf 2).trans (rfl : _ = some (Value.slice A N cc))
  have rc3 := (Blk.cell kf 3).trans (rfl : _ = some (Value.int .i64 (c.st.rej : Int)))
  exact bodyPost_ret (v := .tuple #[.agg #[.int .i64 (c.st.mode : Int), .int .i64 (c.st.run : Int), .slice A N cc, .int .i64 (c.st.rej : Int)], .slice A2 N2 c2, .int .i64 0, .int .i64 0]) (by simp [results, Tryz.results28, go_sem, rc0, rc1, rc2, rc3]) rfl ⟨⟨_, _, rfl, ⟨_, rfl, HSL2.out.own K_r.out zs_nobool (only_drew (only_setCell (only_setCell (only_setCell (only_setCell (only_refl _ (some ((w.heap.size + 1)))) (p := ⟨(w.heap.size + 1), 0, none⟩) (Or.inl rfl) (.int .i64 (c.st.mode : Int))) (p := ⟨(w.heap.size + 1), 1, none⟩) (Or.inl rfl) (.int .i64 (c.st.run : Int))) (p := ⟨(w.heap.size + 1), 2, none⟩) (Or.inl rfl) (.slice A N cc)) (p := ⟨(w.heap.size + 1), 3, none⟩) (Or.inl rfl) (.int .i64 (c.st.rej : Int))))⟩, HRS2.out.own K_r.out zs_nobool (only_drew (only_setCell (only_setCell (only_setCell (only_setCell (only_refl _ (some ((w.heap.size + 1)))) (p := ⟨(w.heap.size + 1), 0, none⟩) (Or.inl rfl) (.int .i64 (c.st.mode : Int))) (p := ⟨(w.heap.size + 1), 1, none⟩) (Or.inl rfl) (.int .i64 (c.st.run : Int))) (p := ⟨(w.heap.size + 1), 2, none⟩) (Or.inl rfl) (.slice A N cc)) (p := ⟨(w.heap.size + 1), 3, none⟩) (Or.inl rfl) (.int .i64 (c.st.rej : Int))))⟩, (((((HB.out.setCell (p := ⟨(w.heap.size + 1), 0, none⟩) (by show w.heap.size ≤ w.heap.size + 1; omega) (.int .i64 (c.st.mode : Int))).setCell (p := ⟨(w.heap.size + 1), 1, none⟩) (by show w.heap.size ≤ w.heap.size + 1; omega) (.int .i64 (c.st.run : Int))).setCell (p := ⟨(w.heap.size + 1), 2, none⟩) (by show w.heap.size ≤ w.heap.size + 1; omega) (.slice A N cc)).setCell (p := ⟨(w.heap.size + 1), 3, none⟩) (by show w.heap.size ≤ w.heap.size + 1; omega) (.int .i64 (c.st.rej : Int)))).drew⟩
set_option maxRecDepth 100000 in
set_option maxHeartbeats 4000000 in
theorem rswrun_err (w : World) (S : Nat → Int × Int) (v : Value) (L : List Int) (i : Nat) (z : Int) (hv : SlL w v (zcl L)) (hg : runG S L = .inr (i, z)) (hz : z ≠ 0) :
    Calls Tryz.prog 28 #[schV S, v] w fun e w' => e = .returned (.tuple #[.agg #[.int .i64 0, .int .i64 0, .slice none 0 0, .int .i64 0], .slice none 0 0, .int .i64 (i : Int), .int .i64 z]) ∧ Below w.heap.size w w' := by
  have HG := hide (fun (W : World) (h : SlL W v (zcl L)) => went_all W S v L h)
  rw [hg] at HG
  unfold WentP at HG
  have HV := hide hv
  unfold schV at HG ⊢
  clear hg hv
  have hzi : (z == 0) = false := by simpa using hz
  have HZ := hide hz
  clear hz
  have HB := allocs_below w [.cells #[.int .i64 (S 0).1, .int .i64 (S 0).2, .int .i64 (S 1).1, .int .i64 (S 1).2, .int .i64 (S 2).1, .int .i64 (S 2).2] 43, .cells #[.int .i64 0, .int .i64 0, .slice none 0 0, .int .i64 0] 34]
  have K_s : Blk (allocs w [.cells #[.int .i64 (S 0).1, .int .i64 (S 0).2, .int .i64 (S 1).1, .int .i64 (S 1).2, .int .i64 (S 2).1, .int .i64 (S 2).2] 43, .cells #[.int .i64 0, .int .i64 0, .slice none 0 0, .int .i64 0] 34]) (w.heap.size + 0) 43 #[.int .i64 (S 0).1, .int .i64 (S 0).2, .int .i64 (S 1).1, .int .i64 (S 1).2, .int .i64 (S 2).1, .int .i64 (S 2).2] := allocs_at w [.cells #[.int .i64 (S 0).1, .int .i64 (S 0).2, .int .i64 (S 1).1, .int .i64 (S 1).2, .int .i64 (S 2).1, .int .i64 (S 2).2] 43, .cells #[.int .i64 0, .int .i64 0, .slice none 0 0, .int .i64 0] 34] 0 rfl
  have K_r : Blk (allocs w [.cells #[.int .i64 (S 0).1, .int .i64 (S 0).2, .int .i64 (S 1).1, .int .i64 (S 1).2, .int .i64 (S 2).1, .int .i64 (S 2).2] 43, .cells #[.int .i64 0, .int .i64 0, .slice none 0 0, .int .i64 0] 34]) (w.heap.size + 1) 34 #[.int .i64 0, .int .i64 0, .slice none 0 0, .int .i64 0] := allocs_at w [.cells #[.int .i64 (S 0).1, .int .i64 (S 0).2, .int .i64 (S 1).1, .int .i64 (S 1).2, .int .i64 (S 2).1, .int .i64 (S 2).2] 43, .cells #[.int .i64 0, .int .i64 0, .slice none 0 0, .int .i64 0] 34] 1 rfl
  unfold allocs at HB K_s K_r
  simp only [List.foldl_cons, List.foldl_nil] at HB K_s K_r
  rw [Nat.add_zero] at K_s
  go_enter Tryz.func28, Tryz.ntmps28
  go_upto_region 1 with (fail)
  generalize ((w.alloc (.cells #[.int .i64 (S 0).1, .int .i64 (S 0).2, .int .i64 (S 1).1, .int .i64 (S 1).2, .int .i64 (S 2).1, .int .i64 (S 2).2] 43)).alloc (.cells #[.int .i64 0, .int .i64 0, .slice none 0 0, .int .i64 0] 34)) = w0 at *
  replace K_s := hide K_s
  replace K_r := hide K_r
  replace HB := hide HB
  have s0 := (Blk.cell K_s.out 0).trans (rfl : _ = some (Value.int .i64 (S 0).1))
  have s1 := (Blk.cell K_s.out 1).trans (rfl : _ = some (Value.int .i64 (S 0).2))
  have s2 := (Blk.cell K_s.out 2).trans (rfl : _ = some (Value.int .i64 (S 1).1))
  have s3 := (Blk.cell K_s.out 3).trans (rfl : _ = some (Value.int .i64 (S 1).2))
  have s4 := (Blk.cell K_s.out 4).trans (rfl : _ = some (Value.int .i64 (S 2).1))
  have s5 := (Blk.cell K_s.out 5).trans (rfl : _ = some (Value.int .i64 (S 2).2))
  go_wp2_with fail
  refine (HG.out _ (HV.out.below HB.out)).mono ?_
  rintro e wb ⟨rfl, hb⟩
  clear s0 s1 s2 s3 s4 s5
  replace K_s := hide (Blk.below K_s.out hb (Blk.lt K_s.out))
  replace K_r := hide (Blk.below K_r.out hb (Blk.lt K_r.out))
  replace HB := hide (HB.out.trans (hb.mono HB.out.size))
  clear hb
  go_upto_region 2 with (fail)
  have hbs := HB.out.size
  have kx := Blk.new wb 113 #[.int .i64 0, .int .i64 0, .slice none 0 0, .int .i64 0, .slice none 0 0, .int .i64 0]
  have hb4 := HB.out.alloc hbs (.cells #[.int .i64 0, .int .i64 0, .slice none 0 0, .int .i64 0, .slice none 0 0, .int .i64 0] 113)
  have kr := K_r.out.alloc (.cells #[.int .i64 0, .int .i64 0, .slice none 0 0, .int .i64 0, .slice none 0 0, .int .i64 0] 113)
  generalize wb.alloc (.cells #[.int .i64 0, .int .i64 0, .slice none 0 0, .int .i64 0, .slice none 0 0, .int .i64 0] 113) = w4 at kx hb4 kr ⊢
  have K_x := hide kx
  replace HB := hide hb4
  replace K_r := hide kr
  clear kx hb4 kr
  have x0 := (Blk.cell K_x.out 0).trans (rfl : _ = some (Value.int .i64 0))
  have x1 := (Blk.cell K_x.out 1).trans (rfl : _ = some (Value.int .i64 0))
  have x2 := (Blk.cell K_x.out 2).trans (rfl : _ = some (Value.slice none 0 0))
  have x3 := (Blk.cell K_x.out 3).trans (rfl : _ = some (Value.int .i64 0))
  have x4 := (Blk.cell K_x.out 4).trans (rfl : _ = some (Value.slice none 0 0))
  have x5 := (Blk.cell K_x.out 5).trans (rfl : _ = some (Value.int .i64 0))
  have r0 := (Blk.cell K_r.out 0).trans (rfl : _ = some (Value.int .i64 0))
  have rf0 := Blk.frozen K_r.out 0
  have r1 := (Blk.cell K_r.out 1).trans (rfl : _ = some (Value.int .i64 0))
  have rf1 := Blk.frozen K_r.out 1
  have r2 := (Blk.cell K_r.out 2).trans (rfl : _ = some (Value.slice none 0 0))
  have rf2 := Blk.frozen K_r.out 2
  have r3 := (Blk.cell K_r.out 3).trans (rfl : _ = some (Value.int .i64 0))
  have rf3 := Blk.frozen K_r.out 3
  go_wp2_with fail
  have rc0 := (Blk.cell ((((K_r.out.set_ 0 (.int .i64 0)).set_ 1 (.int .i64 0)).set_ 2 (.slice none 0 0)).set_ 3 (.int .i64 0)) 0).trans (rfl : _ = some (Value.int .i64 0))
  have rc1 := (Blk.cell ((((K_r.out.set_ 0 (.int .i64 0)).set_ 1 (.int .i64 0)).set_ 2 (.slice none 0 0)).set_ 3 (.int .i64 0)) 1).trans (rfl : _ = some (Value.int .i64 0))
  have rc2 := (Blk.cell ((((K_r.out.set_ 0 (.int .i64 0)).set_ 1 (.int .i64 0)).set_ 2 (.slice none 0 0)).set_ 3 (.int .i64 0)) 2).trans (rfl : _ = some (Value.slice none 0 0))
  have rc3 := (Blk.cell ((((K_r.out.set_ 0 (.int .i64 0)).set_ 1 (.int .i64 0)).set_ 2 (.slice none 0 0)).set_ 3 (.int .i64 0)) 3).trans (rfl : _ = some (Value.int .i64 0))
  exact bodyPost_ret (v := .tuple #[.agg #[.int .i64 0, .int .i64 0, .slice none 0 0, .int .i64 0], .slice none 0 0, .int .i64 (i : Int), .int .i64 z]) (by simp [results, Tryz.results28, go_sem, rc0, rc1, rc2, rc3]) rfl ⟨rfl, ((((HB.out.setCell (p := ⟨(w.heap.size + 1), 0, none⟩) (by show w.heap.size ≤ (w.heap.size + 1); omega) (.int .i64 0)).setCell (p := ⟨(w.heap.size + 1), 1, none⟩) (by show w.heap.size ≤ (w.heap.size + 1); omega) (.int .i64 0)).setCell (p := ⟨(w.heap.size + 1), 2, none⟩) (by show w.heap.size ≤ (w.heap.size + 1); omega) (.slice none 0 0)).setCell (p := ⟨(w.heap.size + 1), 3, none⟩) (by show w.heap.size ≤ (w.heap.size + 1); omega) (.int .i64 0))⟩
set_option maxRecDepth 100000 in
set_option maxHeartbeats 4000000 in
theorem rsweffort_ok (w : World) (S : Nat → Int × Int) (v : Value) (L : List Int) (c : Cr) (hv : SlL w v (zcl L)) (hg : runG S L = .inl c) :
    Calls Tryz.prog 30 #[schV S, v] w fun e w' => (e = .returned (.tuple #[.int .i64 (c.eff : Int), .int .i64 0])) ∧ Below w.heap.size w w' := by
  have HG := hide (fun (W : World) (h : SlL W v (zcl L)) => went_all W S v L h)
  rw [hg] at HG
  unfold WentP at HG
  have HV := hide hv
  unfold schV at HG ⊢
  clear hg hv
  have HB := allocs_below w [.cells #[.int .i64 (S 0).1, .int .i64 (S 0).2, .int .i64 (S 1).1, .int .i64 (S 1).2, .int .i64 (S 2).1, .int .i64 (S 2).2] 43]
  have K_s : Blk (allocs w [.cells #[.int .i64 (S 0).1, .int .i64 (S 0).2, .int .i64 (S 1).1, .int .i64 (S 1).2, .int .i64 (S 2).1, .int .i64 (S 2).2] 43]) (w.heap.size + 0) 43 #[.int .i64 (S 0).1, .int .i64 (S 0).2, .int .i64 (S 1).1, .int .i64 (S 1).2, .int .i64 (S 2).1, .int .i64 (S 2).2] := allocs_at w [.cells #[.int .i64 (S 0).1, .int .i64 (S 0).2, .int .i64 (S 1).1, .int .i64 (S 1).2, .int .i64 (S 2).1, .int .i64 (S 2).2] 43] 0 rfl
  unfold allocs at HB K_s
  simp only [List.foldl_cons, List.foldl_nil] at HB K_s
  rw [Nat.add_zero] at K_s
  go_enter Tryz.func30, Tryz.ntmps30
  go_upto_region 1 with (fail)
  generalize (w.alloc (.cells #[.int .i64 (S 0).1, .int .i64 (S 0).2, .int .i64 (S 1).1, .int .i64 (S 1).2, .int .i64 (S 2).1, .int .i64 (S 2).2] 43)) = w0 at *
  replace K_s := hide K_s
  replace HB := hide HB
  have s0 := (Blk.cell K_s.out 0).trans (rfl : _ = some (Value.int .i64 (S 0).1))
  have s1 := (Blk.cell K_s.out 1).trans (rfl : _ = some (Value.int .i64 (S 0).2))
  have s2 := (Blk.cell K_s.out 2).trans (rfl : _ = some (Value.int .i64 (S 1).1))
  have s3 := (Blk.cell K_s.out 3).trans (rfl : _ = some (Value.int .i64 (S 1).2))
  have s4 := (Blk.cell K_s.out 4).trans (rfl : _ = some (Value.int .i64 (S 2).1))
  have s5 := (Blk.cell K_s.out 5).trans (rfl : _ = some (Value.int .i64 (S 2).2))
  go_wp2_with fail
  refine (HG.out _ (HV.out.below HB.out)).mono ?_
  rintro e wb ⟨u, rfl, hco, hb⟩
  obtain ⟨sl, rs, rfl, hsl, hrs⟩ := hco
  obtain ⟨A, N, cc, rfl⟩ := hsl.shape3
  obtain ⟨A2, N2, c2, rfl⟩ := hrs.shape3
  have HSL := hide hsl
  have HRS := hide hrs
  clear hsl hrs
  clear s0 s1 s2 s3 s4 s5
  replace K_s := hide (Blk.below K_s.out hb (Blk.lt K_s.out))
  replace HB := hide (HB.out.trans (hb.mono HB.out.size))
  clear hb
  have sl2 := HSL.out.below (nalcW wb (.cells #[.int .i64 (c.st.mode : Int), .int .i64 (c.st.run : Int), .slice A N cc, .int .i64 (c.st.rej : Int), .slice A2 N2 c2, .int .i64 (c.eff : Int)] 113))
  have rs2 := HRS.out.below (nalcW wb (.cells #[.int .i64 (c.st.mode : Int), .int .i64 (c.st.run : Int), .slice A N cc, .int .i64 (c.st.rej : Int), .slice A2 N2 c2, .int .i64 (c.eff : Int)] 113))
  go_upto_region 2 with (fail)
  have hbs := HB.out.size
  have kx := Blk.new wb 113 #[.int .i64 (c.st.mode : Int), .int .i64 (c.st.run : Int), .slice A N cc, .int .i64 (c.st.rej : Int), .slice A2 N2 c2, .int .i64 (c.eff : Int)]
  have hb4 := HB.out.alloc hbs (.cells #[.int .i64 (c.st.mode : Int), .int .i64 (c.st.run : Int), .slice A N cc, .int .i64 (c.st.rej : Int), .slice A2 N2 c2, .int .i64 (c.eff : Int)] 113)
  generalize wb.alloc (.cells #[.int .i64 (c.st.mode : Int), .int .i64 (c.st.run : Int), .slice A N cc, .int .i64 (c.st.rej : Int), .slice A2 N2 c2, .int .i64 (c.eff : Int)] 113) = w4 at sl2 rs2 kx hb4  ⊢
  have HSL2 := hide sl2
  have HRS2 := hide rs2
  have K_x := hide kx
  replace HB := hide hb4
  clear sl2 rs2 kx hb4
  have x0 := (Blk.cell K_x.out 0).trans (rfl : _ = some (Value.int .i64 (c.st.mode : Int)))
  have x1 := (Blk.cell K_x.out 1).trans (rfl : _ = some (Value.int .i64 (c.st.run : Int)))
  have x2 := (Blk.cell K_x.out 2).trans (rfl : _ = some (Value.slice A N cc))
  have x3 := (Blk.cell K_x.out 3).trans (rfl : _ = some (Value.int .i64 (c.st.rej : Int)))
  have x4 := (Blk.cell K_x.out 4).trans (rfl : _ = some (Value.slice A2 N2 c2))
  have x5 := (Blk.cell K_x.out 5).trans (rfl : _ = some (Value.int .i64 (c.eff : Int)))
  go_wp2_with fail
  go_ret2
  exact ⟨rfl, HB.out⟩
set_option maxRecDepth 100000 in
set_option maxHeartbeats 4000000 in
theorem rsweffort_err (w : World) (S : Nat → Int × Int) (v : Value) (L : List Int) (i : Nat) (z : Int) (hv : SlL w v (zcl L)) (hg : runG S L = .inr (i, z)) (hz : z ≠ 0) :
    Calls Tryz.prog 30 #[schV S, v] w fun e w' => e = .returned (.tuple #[.int .i64 0, .int .i64 z]) ∧ Below w.heap.size w w' := by
  have HG := hide (fun (W : World) (h : SlL W v (zcl L)) => went_all W S v L h)
  rw [hg] at HG
  unfold WentP at HG
  have HV := hide hv
  unfold schV at HG ⊢
  clear hg hv
  have hzi : (z == 0) = false := by simpa using hz
  have HZ := hide hz
  clear hz
  have HB := allocs_below w [.cells #[.int .i64 (S 0).1, .int .i64 (S 0).2, .int .i64 (S 1).1, .int .i64 (S 1).2, .int .i64 (S 2).1, .int .i64 (S 2).2] 43]
  have K_s : Blk (allocs w [.cells #[.int .i64 (S 0).1, .int .i64 (S 0).2, .int .i64 (S 1).1, .int .i64 (S 1).2, .int .i64 (S 2).1, .int .i64 (S 2).2] 43]) (w.heap.size + 0) 43 #[.int .i64 (S 0).1, .int .i64 (S 0).2, .int .i64 (S 1).1, .int .i64 (S 1).2, .int .i64 (S 2).1, .int .i64 (S 2).2] := allocs_at w [.cells #[.int .i64 (S 0).1, .int .i64 (S 0).2, .int .i64 (S 1).1, .int .i64 (S 1).2, .int .i64 (S 2).1, .int .i64 (S 2).2] 43] 0 rfl
  unfold allocs at HB K_s
  simp only [List.foldl_cons, List.foldl_nil] at HB K_s
  rw [Nat.add_zero] at K_s
  go_enter Tryz.func30, Tryz.ntmps30
  go_upto_region 1 with (fail)
  generalize (w.alloc (.cells #[.int .i64 (S 0).1, .int .i64 (S 0).2, .int .i64 (S 1).1, .int .i64 (S 1).2, .int .i64 (S 2).1, .int .i64 (S 2).2] 43)) = w0 at *
  replace K_s := hide K_s
  replace HB := hide HB
  have s0 := (Blk.cell K_s.out 0).trans (rfl : _ = some (Value.int .i64 (S 0).1))
  have s1 := (Blk.cell K_s.out 1).trans (rfl : _ = some (Value.int .i64 (S 0).2))
  have s2 := (Blk.cell K_s.out 2).trans (rfl : _ = some (Value.int .i64 (S 1).1))
  have s3 := (Blk.cell K_s.out 3).trans (rfl : _ = some (Value.int .i64 (S 1).2))
  have s4 := (Blk.cell K_s.out 4).trans (rfl : _ = some (Value.int .i64 (S 2).1))
  have s5 := (Blk.cell K_s.out 5).trans (rfl : _ = some (Value.int .i64 (S 2).2))
  go_wp2_with fail
  refine (HG.out _ (HV.out.below HB.out)).mono ?_
  rintro e wb ⟨rfl, hb⟩
  clear s0 s1 s2 s3 s4 s5
  replace K_s := hide (Blk.below K_s.out hb (Blk.lt K_s.out))
  replace HB := hide (HB.out.trans (hb.mono HB.out.size))
  clear hb
  go_upto_region 2 with (fail)
  have hbs := HB.out.size
  have kx := Blk.new wb 113 #[.int .i64 0, .int .i64 0, .slice none 0 0, .int .i64 0, .slice none 0 0, .int .i64 0]
  have hb4 := HB.out.alloc hbs (.cells #[.int .i64 0, .int .i64 0, .slice none 0 0, .int .i64 0, .slice none 0 0, .int .i64 0] 113)
  generalize wb.alloc (.cells #[.int .i64 0, .int .i64 0, .slice none 0 0, .int .i64 0, .slice none 0 0, .int .i64 0] 113) = w4 at kx hb4  ⊢
  have K_x := hide kx
  replace HB := hide hb4
  clear kx hb4
  have x0 := (Blk.cell K_x.out 0).trans (rfl : _ = some (Value.int .i64 0))
  have x1 := (Blk.cell K_x.out 1).trans (rfl : _ = some (Value.int .i64 0))
  have x2 := (Blk.cell K_x.out 2).trans (rfl : _ = some (Value.slice none 0 0))
  have x3 := (Blk.cell K_x.out 3).trans (rfl : _ = some (Value.int .i64 0))
  have x4 := (Blk.cell K_x.out 4).trans (rfl : _ = some (Value.slice none 0 0))
  have x5 := (Blk.cell K_x.out 5).trans (rfl : _ = some (Value.int .i64 0))
  go_wp2_with fail
  go_ret2
  exact ⟨rfl, HB.out⟩
end Go.Proofs.YthmmgjieppknkaaGreatDoor

namespace Go.Proofs.YthmmgjieppknkaaGreatDoor
open Go.RowKit MLab
set_option maxRecDepth 100000 in
set_option maxHeartbeats 2000000 in
theorem sameD_any (w : World) (u v : Value) (l l2 : List Bool) (hu : SlL w u (bcl l)) (hv : SlL w v (bcl l2)) (hl : l.length ≤ 1000000) :
    Calls Tryz.prog 55 #[u, v] w fun e w' => e = .returned (.bool (decide (l = l2))) ∧ Below w.heap.size w w' := by
  obtain ⟨A, c, rfl, -, hc⟩ := hu
  obtain ⟨A2, c2, rfl, -, hc2⟩ := hv
  rw [bcl_len] at hc hc2 ⊢
  rw [bcl_len]
  have HC := hide hc
  have HC2 := hide hc2
  have HT := hide (fun (h : l = l2) => decide_eq_true h)
  have HF := hide (fun (h : ¬ l = l2) => decide_eq_false h)
  obtain ⟨R, hR⟩ : ∃ R, decide (l = l2) = R := ⟨_, rfl⟩
  rw [hR] at HT HF ⊢
  clear hc hc2 hR
  by_cases hne : l.length = l2.length
  · obtain ⟨N, hN⟩ : ∃ N, l.length = N := ⟨_, rfl⟩
    have hN2 : l2.length = N := by omega
    rw [hN] at HC hl ⊢
    rw [hN2] at HC2 ⊢
    have HNN := hide hN
    have HNN2 := hide hN2
    clear hN hN2 hne
    have hnn : ((N : Int) == (N : Int)) = true := beq_self_eq_true _
    go_enter Tryz.func55, Tryz.ntmps55
    go_wp2_with fail
    go_loopg [5] N (fun z iv wr => ∃ j : Nat, iv = .int .i64 (j : Int) ∧ z + j = N ∧ Below w.heap.size w wr ∧ ∀ i, i < j → l[i]? = l2[i]?)
    case atStart => exact ⟨0, rfl, rfl, Below.refl _ _, fun i hi => absurd hi (by omega)⟩
    case round =>
      obtain ⟨j, rfl, hq, hb, hr⟩ := hrel
      have HQ := hide hq
      have HB := hide hb
      have HR := hide hr
      have hj : j ≤ N := by omega
      clear hq hb hr
      by_cases hlt : j < N
      · have hji : (j : Int) < (N : Int) := by omega
        have hj0 : (0 : Int) ≤ (j : Int) := by omega
        obtain ⟨g, og, rfl, hcell⟩ := HC.out (by omega)
        obtain ⟨g2, og2, rfl, hcell2⟩ := HC2.out (by omega)
        obtain ⟨b, hx⟩ : ∃ b, l[j]? = some b := ⟨_, List.getElem?_eq_getElem (by rw [HNN.out]; exact hlt)⟩
        obtain ⟨d, hy⟩ : ∃ b, l2[j]? = some b := ⟨_, List.getElem?_eq_getElem (by rw [HNN2.out]; exact hlt)⟩
        have a := hcell j _ (bcl_at hx)
        have a2 := (bcell HB.out _ _ (block_lt_of_cell a)).trans a
        have b1 := hcell2 j _ (bcl_at hy)
        have b2 := (bcell HB.out _ _ (block_lt_of_cell b1)).trans b1
        have HX := hide hx
        have HY := hide hy
        clear a hcell hx HC b1 hcell2 HC2 hy
        by_cases hbd : b = d
        · subst hbd
          have hbb : (b == b) = true := beq_self_eq_true _
          go_upto_region 6 with (fail)
          go_region
          go_wp2_with fail
          go_roundg (gk - 1)
          case measure => have := HQ.out; omega
          case rel => exact ⟨j + 1, by go_num, by have := HQ.out; omega, HB.out.drew, fun i hi => by
            rcases (by omega : i < j ∨ i = j) with h | h
            · exact HR.out i h
            · subst h; rw [HX.out, HY.out]⟩
        · have hbb : (b == d) = false := by simpa using hbd
          have hRf := HF.out (fun e => hbd (by have h1 := HX.out; rw [e, HY.out] at h1; exact (Option.some.inj h1).symm))
          subst hRf
          go_upto_region 6 with (fail)
          go_region
          go_wp2_with fail
          go_ret
          exact ⟨rfl, HB.out.drew⟩
      · have hji : ¬ (j : Int) < (N : Int) := by omega
        have hRt := HT.out (List.ext_getElem? fun i => by
          rcases Nat.lt_or_ge i N with h | h
          · exact HR.out i (by omega)
          · rw [List.getElem?_eq_none (by rw [HNN.out]; exact h), List.getElem?_eq_none (by rw [HNN2.out]; exact h)])
        subst hRt
        go_wp2_with fail
        go_ret
        exact ⟨rfl, HB.out⟩
  · have hRf := HF.out (fun e => hne (by rw [e]))
    subst hRf
    have hnn : ((l.length : Int) == (l2.length : Int)) = false := by simp; omega
    obtain ⟨N, hN⟩ : ∃ N, l.length = N := ⟨_, rfl⟩
    obtain ⟨N2, hN2⟩ : ∃ N, l2.length = N := ⟨_, rfl⟩
    rw [hN, hN2] at hnn
    rw [hN] at hne hl ⊢
    rw [hN2] at hne ⊢
    clear HC HC2 HT HF hN hN2
    go_enter Tryz.func55, Tryz.ntmps55
    go_wp2_with fail
    go_ret
    exact ⟨rfl, Below.refl _ _⟩
set_option maxRecDepth 100000 in
set_option maxHeartbeats 2000000 in
theorem same55D_any (w : World) (A A2 : Option Addr) (N N2 c c2 : Nat) (x y : Sw) (hu : SlL w (.slice A N c) (bcl x.last)) (hv : SlL w (.slice A2 N2 c2) (bcl y.last)) (hl : x.last.length ≤ 1000000) :
    Calls Tryz.prog 24 #[.agg #[.int .i64 (x.mode : Int), .int .i64 (x.run : Int), .slice A N c, .int .i64 (x.rej : Int)], .agg #[.int .i64 (y.mode : Int), .int .i64 (y.run : Int), .slice A2 N2 c2, .int .i64 (y.rej : Int)]] w fun e w' => e = .returned (.bool (decide (x = y))) ∧ Below w.heap.size w w' := by
  have H1 := hide hu
  have H2 := hide hv
  have HS := hide (fun (W : World) (u v : Value) (a : SlL W u (bcl x.last)) (b : SlL W v (bcl y.last)) => sameD_any W u v x.last y.last a b hl)
  clear hu hv
  obtain ⟨m, rn, l, d⟩ := x
  obtain ⟨m2, rn2, l2, d2⟩ := y
  simp only at H1 H2 HS ⊢
  clear hl
  by_cases h0 : m = m2
  · subst h0
    by_cases h1 : rn = rn2
    · subst h1
      by_cases h2 : d = d2
      · subst h2
        have q0 : ((m : Int) == (m : Int)) = true := beq_self_eq_true _
        have q1 : ((rn : Int) == (rn : Int)) = true := beq_self_eq_true _
        have q2 : ((d : Int) == (d : Int)) = true := beq_self_eq_true _
        have hre : decide ((⟨m, rn, l, d⟩ : Sw) = ⟨m, rn, l2, d⟩) = decide (l = l2) := by simp
        rw [hre]
        clear hre
        obtain ⟨R, hR⟩ : ∃ R, decide (l = l2) = R := ⟨_, rfl⟩
        rw [hR] at HS ⊢
        clear hR
        have HB := allocs_below w [.cells #[.int .i64 (m : Int), .int .i64 (rn : Int), .slice A N c, .int .i64 (d : Int)] 34, .cells #[.int .i64 (m : Int), .int .i64 (rn : Int), .slice A2 N2 c2, .int .i64 (d : Int)] 34]
        have K_a : Blk (allocs w [.cells #[.int .i64 (m : Int), .int .i64 (rn : Int), .slice A N c, .int .i64 (d : Int)] 34, .cells #[.int .i64 (m : Int), .int .i64 (rn : Int), .slice A2 N2 c2, .int .i64 (d : Int)] 34]) (w.heap.size + 0) 34 #[.int .i64 (m : Int), .int .i64 (rn : Int), .slice A N c, .int .i64 (d : Int)] := allocs_at w [.cells #[.int .i64 (m : Int), .int .i64 (rn : Int), .slice A N c, .int .i64 (d : Int)] 34, .cells #[.int .i64 (m : Int), .int .i64 (rn : Int), .slice A2 N2 c2, .int .i64 (d : Int)] 34] 0 rfl
        have K_b : Blk (allocs w [.cells #[.int .i64 (m : Int), .int .i64 (rn : Int), .slice A N c, .int .i64 (d : Int)] 34, .cells #[.int .i64 (m : Int), .int .i64 (rn : Int), .slice A2 N2 c2, .int .i64 (d : Int)] 34]) (w.heap.size + 1) 34 #[.int .i64 (m : Int), .int .i64 (rn : Int), .slice A2 N2 c2, .int .i64 (d : Int)] := allocs_at w [.cells #[.int .i64 (m : Int), .int .i64 (rn : Int), .slice A N c, .int .i64 (d : Int)] 34, .cells #[.int .i64 (m : Int), .int .i64 (rn : Int), .slice A2 N2 c2, .int .i64 (d : Int)] 34] 1 rfl
        unfold allocs at HB K_a K_b
        simp only [List.foldl_cons, List.foldl_nil] at HB K_a K_b
        rw [Nat.add_zero] at K_a
        go_enter Tryz.func24, Tryz.ntmps24
        go_upto_region 1 with (fail)
        generalize ((w.alloc (.cells #[.int .i64 (m : Int), .int .i64 (rn : Int), .slice A N c, .int .i64 (d : Int)] 34)).alloc (.cells #[.int .i64 (m : Int), .int .i64 (rn : Int), .slice A2 N2 c2, .int .i64 (d : Int)] 34)) = w0 at *
        replace K_a := hide K_a
        replace K_b := hide K_b
        replace HB := hide HB
        have a0 := (Blk.cell K_a.out 0).trans (rfl : _ = some (Value.int .i64 (m : Int)))
        have a1 := (Blk.cell K_a.out 1).trans (rfl : _ = some (Value.int .i64 (rn : Int)))
        have a2 := (Blk.cell K_a.out 2).trans (rfl : _ = some (Value.slice A N c))
        have a3 := (Blk.cell K_a.out 3).trans (rfl : _ = some (Value.int .i64 (d : Int)))
        have b0 := (Blk.cell K_b.out 0).trans (rfl : _ = some (Value.int .i64 (m : Int)))
        have b1 := (Blk.cell K_b.out 1).trans (rfl : _ = some (Value.int .i64 (rn : Int)))
        have b2 := (Blk.cell K_b.out 2).trans (rfl : _ = some (Value.slice A2 N2 c2))
        have b3 := (Blk.cell K_b.out 3).trans (rfl : _ = some (Value.int .i64 (d : Int)))
        go_wp2_with fail
        refine (HS.out _ _ _ (H1.out.below HB.out) (H2.out.below HB.out)).mono ?_
        rintro e w1 ⟨rfl, hb⟩
        clear a0 a1 a2 a3 b0 b1 b2 b3
        replace K_a := hide (Blk.below K_a.out hb (Blk.lt K_a.out))
        replace K_b := hide (Blk.below K_b.out hb (Blk.lt K_b.out))
        replace HB := hide (HB.out.trans (hb.mono HB.out.size))
        clear hb
        go_wp2_with fail
        go_ret
        exact ⟨rfl, HB.out⟩
      · have hre : ¬ ((⟨m, rn, l, d⟩ : Sw) = ⟨m, rn, l2, d2⟩) := fun e => h2 (by injection e)
        rw [decide_eq_false hre]
        clear hre HS H1 H2
        have q0 : ((m : Int) == (m : Int)) = true := beq_self_eq_true _
        have q1 : ((rn : Int) == (rn : Int)) = true := beq_self_eq_true _
        have q2 : ((d : Int) == (d2 : Int)) = false := by simp; omega
        have HB := allocs_below w [.cells #[.int .i64 (m : Int), .int .i64 (rn : Int), .slice A N c, .int .i64 (d : Int)] 34, .cells #[.int .i64 (m : Int), .int .i64 (rn : Int), .slice A2 N2 c2, .int .i64 (d2 : Int)] 34]
        have K_a : Blk (allocs w [.cells #[.int .i64 (m : Int), .int .i64 (rn : Int), .slice A N c, .int .i64 (d : Int)] 34, .cells #[.int .i64 (m : Int), .int .i64 (rn : Int), .slice A2 N2 c2, .int .i64 (d2 : Int)] 34]) (w.heap.size + 0) 34 #[.int .i64 (m : Int), .int .i64 (rn : Int), .slice A N c, .int .i64 (d : Int)] := allocs_at w [.cells #[.int .i64 (m : Int), .int .i64 (rn : Int), .slice A N c, .int .i64 (d : Int)] 34, .cells #[.int .i64 (m : Int), .int .i64 (rn : Int), .slice A2 N2 c2, .int .i64 (d2 : Int)] 34] 0 rfl
        have K_b : Blk (allocs w [.cells #[.int .i64 (m : Int), .int .i64 (rn : Int), .slice A N c, .int .i64 (d : Int)] 34, .cells #[.int .i64 (m : Int), .int .i64 (rn : Int), .slice A2 N2 c2, .int .i64 (d2 : Int)] 34]) (w.heap.size + 1) 34 #[.int .i64 (m : Int), .int .i64 (rn : Int), .slice A2 N2 c2, .int .i64 (d2 : Int)] := allocs_at w [.cells #[.int .i64 (m : Int), .int .i64 (rn : Int), .slice A N c, .int .i64 (d : Int)] 34, .cells #[.int .i64 (m : Int), .int .i64 (rn : Int), .slice A2 N2 c2, .int .i64 (d2 : Int)] 34] 1 rfl
        unfold allocs at HB K_a K_b
        simp only [List.foldl_cons, List.foldl_nil] at HB K_a K_b
        rw [Nat.add_zero] at K_a
        go_enter Tryz.func24, Tryz.ntmps24
        go_upto_region 1 with (fail)
        generalize ((w.alloc (.cells #[.int .i64 (m : Int), .int .i64 (rn : Int), .slice A N c, .int .i64 (d : Int)] 34)).alloc (.cells #[.int .i64 (m : Int), .int .i64 (rn : Int), .slice A2 N2 c2, .int .i64 (d2 : Int)] 34)) = w0 at *
        replace K_a := hide K_a
        replace K_b := hide K_b
        replace HB := hide HB
        have a0 := (Blk.cell K_a.out 0).trans (rfl : _ = some (Value.int .i64 (m : Int)))
        have a1 := (Blk.cell K_a.out 1).trans (rfl : _ = some (Value.int .i64 (rn : Int)))
        have a2 := (Blk.cell K_a.out 2).trans (rfl : _ = some (Value.slice A N c))
        have a3 := (Blk.cell K_a.out 3).trans (rfl : _ = some (Value.int .i64 (d : Int)))
        have b0 := (Blk.cell K_b.out 0).trans (rfl : _ = some (Value.int .i64 (m : Int)))
        have b1 := (Blk.cell K_b.out 1).trans (rfl : _ = some (Value.int .i64 (rn : Int)))
        have b2 := (Blk.cell K_b.out 2).trans (rfl : _ = some (Value.slice A2 N2 c2))
        have b3 := (Blk.cell K_b.out 3).trans (rfl : _ = some (Value.int .i64 (d2 : Int)))
        go_wp2_with fail
        go_ret
        exact ⟨rfl, HB.out⟩
    · have hre : ¬ ((⟨m, rn, l, d⟩ : Sw) = ⟨m, rn2, l2, d2⟩) := fun e => h1 (by injection e)
      rw [decide_eq_false hre]
      clear hre HS H1 H2
      have q0 : ((m : Int) == (m : Int)) = true := beq_self_eq_true _
      have q1 : ((rn : Int) == (rn2 : Int)) = false := by simp; omega
      have HB := allocs_below w [.cells #[.int .i64 (m : Int), .int .i64 (rn : Int), .slice A N c, .int .i64 (d : Int)] 34, .cells #[.int .i64 (m : Int), .int .i64 (rn2 : Int), .slice A2 N2 c2, .int .i64 (d2 : Int)] 34]
      have K_a : Blk (allocs w [.cells #[.int .i64 (m : Int), .int .i64 (rn : Int), .slice A N c, .int .i64 (d : Int)] 34, .cells #[.int .i64 (m : Int), .int .i64 (rn2 : Int), .slice A2 N2 c2, .int .i64 (d2 : Int)] 34]) (w.heap.size + 0) 34 #[.int .i64 (m : Int), .int .i64 (rn : Int), .slice A N c, .int .i64 (d : Int)] := allocs_at w [.cells #[.int .i64 (m : Int), .int .i64 (rn : Int), .slice A N c, .int .i64 (d : Int)] 34, .cells #[.int .i64 (m : Int), .int .i64 (rn2 : Int), .slice A2 N2 c2, .int .i64 (d2 : Int)] 34] 0 rfl
      have K_b : Blk (allocs w [.cells #[.int .i64 (m : Int), .int .i64 (rn : Int), .slice A N c, .int .i64 (d : Int)] 34, .cells #[.int .i64 (m : Int), .int .i64 (rn2 : Int), .slice A2 N2 c2, .int .i64 (d2 : Int)] 34]) (w.heap.size + 1) 34 #[.int .i64 (m : Int), .int .i64 (rn2 : Int), .slice A2 N2 c2, .int .i64 (d2 : Int)] := allocs_at w [.cells #[.int .i64 (m : Int), .int .i64 (rn : Int), .slice A N c, .int .i64 (d : Int)] 34, .cells #[.int .i64 (m : Int), .int .i64 (rn2 : Int), .slice A2 N2 c2, .int .i64 (d2 : Int)] 34] 1 rfl
      unfold allocs at HB K_a K_b
      simp only [List.foldl_cons, List.foldl_nil] at HB K_a K_b
      rw [Nat.add_zero] at K_a
      go_enter Tryz.func24, Tryz.ntmps24
      go_upto_region 1 with (fail)
      generalize ((w.alloc (.cells #[.int .i64 (m : Int), .int .i64 (rn : Int), .slice A N c, .int .i64 (d : Int)] 34)).alloc (.cells #[.int .i64 (m : Int), .int .i64 (rn2 : Int), .slice A2 N2 c2, .int .i64 (d2 : Int)] 34)) = w0 at *
      replace K_a := hide K_a
      replace K_b := hide K_b
      replace HB := hide HB
      have a0 := (Blk.cell K_a.out 0).trans (rfl : _ = some (Value.int .i64 (m : Int)))
      have a1 := (Blk.cell K_a.out 1).trans (rfl : _ = some (Value.int .i64 (rn : Int)))
      have a2 := (Blk.cell K_a.out 2).trans (rfl : _ = some (Value.slice A N c))
      have a3 := (Blk.cell K_a.out 3).trans (rfl : _ = some (Value.int .i64 (d : Int)))
      have b0 := (Blk.cell K_b.out 0).trans (rfl : _ = some (Value.int .i64 (m : Int)))
      have b1 := (Blk.cell K_b.out 1).trans (rfl : _ = some (Value.int .i64 (rn2 : Int)))
      have b2 := (Blk.cell K_b.out 2).trans (rfl : _ = some (Value.slice A2 N2 c2))
      have b3 := (Blk.cell K_b.out 3).trans (rfl : _ = some (Value.int .i64 (d2 : Int)))
      go_wp2_with fail
      go_ret
      exact ⟨rfl, HB.out⟩
  · have hre : ¬ ((⟨m, rn, l, d⟩ : Sw) = ⟨m2, rn2, l2, d2⟩) := fun e => h0 (by injection e)
    rw [decide_eq_false hre]
    clear hre HS H1 H2
    have q0 : ((m : Int) == (m2 : Int)) = false := by simp; omega
    have HB := allocs_below w [.cells #[.int .i64 (m : Int), .int .i64 (rn : Int), .slice A N c, .int .i64 (d : Int)] 34, .cells #[.int .i64 (m2 : Int), .int .i64 (rn2 : Int), .slice A2 N2 c2, .int .i64 (d2 : Int)] 34]
    have K_a : Blk (allocs w [.cells #[.int .i64 (m : Int), .int .i64 (rn : Int), .slice A N c, .int .i64 (d : Int)] 34, .cells #[.int .i64 (m2 : Int), .int .i64 (rn2 : Int), .slice A2 N2 c2, .int .i64 (d2 : Int)] 34]) (w.heap.size + 0) 34 #[.int .i64 (m : Int), .int .i64 (rn : Int), .slice A N c, .int .i64 (d : Int)] := allocs_at w [.cells #[.int .i64 (m : Int), .int .i64 (rn : Int), .slice A N c, .int .i64 (d : Int)] 34, .cells #[.int .i64 (m2 : Int), .int .i64 (rn2 : Int), .slice A2 N2 c2, .int .i64 (d2 : Int)] 34] 0 rfl
    have K_b : Blk (allocs w [.cells #[.int .i64 (m : Int), .int .i64 (rn : Int), .slice A N c, .int .i64 (d : Int)] 34, .cells #[.int .i64 (m2 : Int), .int .i64 (rn2 : Int), .slice A2 N2 c2, .int .i64 (d2 : Int)] 34]) (w.heap.size + 1) 34 #[.int .i64 (m2 : Int), .int .i64 (rn2 : Int), .slice A2 N2 c2, .int .i64 (d2 : Int)] := allocs_at w [.cells #[.int .i64 (m : Int), .int .i64 (rn : Int), .slice A N c, .int .i64 (d : Int)] 34, .cells #[.int .i64 (m2 : Int), .int .i64 (rn2 : Int), .slice A2 N2 c2, .int .i64 (d2 : Int)] 34] 1 rfl
    unfold allocs at HB K_a K_b
    simp only [List.foldl_cons, List.foldl_nil] at HB K_a K_b
    rw [Nat.add_zero] at K_a
    go_enter Tryz.func24, Tryz.ntmps24
    go_upto_region 1 with (fail)
    generalize ((w.alloc (.cells #[.int .i64 (m : Int), .int .i64 (rn : Int), .slice A N c, .int .i64 (d : Int)] 34)).alloc (.cells #[.int .i64 (m2 : Int), .int .i64 (rn2 : Int), .slice A2 N2 c2, .int .i64 (d2 : Int)] 34)) = w0 at *
    replace K_a := hide K_a
    replace K_b := hide K_b
    replace HB := hide HB
    have a0 := (Blk.cell K_a.out 0).trans (rfl : _ = some (Value.int .i64 (m : Int)))
    have a1 := (Blk.cell K_a.out 1).trans (rfl : _ = some (Value.int .i64 (rn : Int)))
    have a2 := (Blk.cell K_a.out 2).trans (rfl : _ = some (Value.slice A N c))
    have a3 := (Blk.cell K_a.out 3).trans (rfl : _ = some (Value.int .i64 (d : Int)))
    have b0 := (Blk.cell K_b.out 0).trans (rfl : _ = some (Value.int .i64 (m2 : Int)))
    have b1 := (Blk.cell K_b.out 1).trans (rfl : _ = some (Value.int .i64 (rn2 : Int)))
    have b2 := (Blk.cell K_b.out 2).trans (rfl : _ = some (Value.slice A2 N2 c2))
    have b3 := (Blk.cell K_b.out 3).trans (rfl : _ = some (Value.int .i64 (d2 : Int)))
    go_wp2_with fail
    go_ret
    exact ⟨rfl, HB.out⟩
end Go.Proofs.YthmmgjieppknkaaGreatDoor
