/- Contracts and plain laws that the statements of this seat share (part Tcal). -/
import Derived.Test.YthmmgjieppknkaaGreatDoorTcab
import Derived.Test.YthmmgjieppknkaaGreatDoorTcac
import Derived.Test.YthmmgjieppknkaaGreatDoorTcad
import Derived.Test.YthmmgjieppknkaaGreatDoorTcae
import Derived.Test.YthmmgjieppknkaaGreatDoorKtaa
import Derived.Test.YthmmgjieppknkaaGreatDoorKtab
import Derived.Test.YthmmgjieppknkaaGreatDoorKtac
import Derived.Test.YthmmgjieppknkaaGreatDoorKtad
import Derived.Test.YthmmgjieppknkaaGreatDoorKtag
import Derived.Test.YthmmgjieppknkaaGreatDoorKtai
import Derived.Test.YthmmgjieppknkaaGreatDoorKtak
import Derived.Test.YthmmgjieppknkaaGreatDoorKtal
import Derived.Test.YthmmgjieppknkaaGreatDoorKtam
import Derived.Test.YthmmgjieppknkaaGreatDoorKtas
import Derived.Test.YthmmgjieppknkaaGreatDoorKtat
import Derived.Test.YthmmgjieppknkaaGreatDoorKtau
import Derived.Lib.Builder
import Derived.Lib.AppendStr
import Derived.Laws.Externs
import Derived.WalkSmall
import Derived.Lib.AtoiErrMem
import Derived.Shelf.Strings.SlTrimAscii
import Derived.Shelf.Strings.Builder1
import Derived.Shelf.Strings.Trim
import Derived.Shelf.Small.Utf8
import Derived.Shelf.Small.Strs
import Derived.Shelf.Strings.BuilderF
import Derived.Shelf.Strings.BuilderK
import Derived.Shelf.Strconv.Atoi
import Derived.Shelf.Strconv.Itoa0
import Derived.Shelf.Strconv.Itoa1
import Derived.Shelf.LaysM
import Derived.Shelf.Strconv.Itoa2
import Derived.Shelf.Strconv.Itoa3
import Derived.Shelf.Strings.Search1
import Derived.Shelf.Strings.Search2
import Derived.Shelf.Strings.Cut
import Derived.Shelf.Strings.Shaped
import Derived.Shelf.Strings.Prefix
import Derived.Shelf.Strings.Runes
import Derived.Shelf.Strings.AsciiSet
import Derived.Shelf.Bits.Mul64
import Derived.Shelf.Unicode.DecodeSlow
import Derived.Test.YthmmgjieppknkaaGreatDoorProg
import Derived.Test.YthmmgjieppknkaaGreatDoorChecked
import Derived.WalkKit
import Derived.WalkSpells
import Derived.WalkLawsBesides
import Derived.Lib.Hide
import Derived.IntWalk
import Derived.BigQuiet
import Derived.Deep.QuietTactic
import Derived.Deep.LoopGhost
import Derived.Deep.DeepCutAuto
import Derived.Deep.DeepFit
import Derived.Deep.Light
import Derived.Outline
import Derived.Laws.Rows
import Derived.Laws.NewBlocks
import Derived.Laws.CopyOwn
import Derived.Laws.Tables
import Derived.Lib.ItoaNum
import Derived.Lib.ItoaLen
import Derived.Lib.Atoi
import Derived.Lib.AtoiAll
import Derived.Lib.Strings
import Derived.Lib.SlTrimSet
namespace Go.Proofs.YthmmgjieppknkaaGreatDoor
open Go.RowKit MLab
def ruN (S : Nat → Int × Int) (m : Nat) : Nat × Nat := if m < 3 then ((S m).1.toNat, (S m).2.toNat) else (1, 0)
theorem ruN_at {S : Nat → Int × Int} (h : ckS S = 0) {m : Nat} (hm : m < 3) : (S m).1 = ((ruN S m).1 : Int) ∧ (S m).2 = ((ruN S m).2 : Int) := by
  have := ckS_zero h m hm
  unfold ruN
  rw [if_pos hm]
  constructor <;> (simp only; omega)
theorem ruN_le {S : Nat → Int × Int} (h : ckS S = 0) (m : Nat) : (ruN S m).1 ≤ 1048576 ∧ (ruN S m).2 < (ruN S m).1 := by
  by_cases hm : m < 3
  · have := ckS_zero h m hm
    have := ruN_at h hm
    omega
  · unfold ruN; rw [if_neg hm]; simp
theorem SlL.grownA {w w' : World} {v : Value} {L : List Value} {row : Option Nat} (h : SlL w v L) (hb : w.grownBy w' row) (hr : ∀ g o n c, v = .slice (some ⟨g, o, none⟩) (n + 1) c → row ≠ some g) : SlL w' v L := by
  obtain ⟨A, c, hv, hcap, hc⟩ := h
  refine ⟨A, c, hv, hcap, fun h0 => ?_⟩
  obtain ⟨g, o, hA, hcell⟩ := hc h0
  subst hA
  refine ⟨g, o, rfl, fun p x hp => ?_⟩
  have h1 := hcell p x hp
  refine Eq.trans ?_ h1
  have h2 := hb.block g (block_lt_of_cell h1) (fun e => hr g o (L.length - 1) c (by rw [hv, show L.length - 1 + 1 = L.length by omega]) e.symm)
  simp only [World.cell?]
  rw [h2]
theorem nobool4 (a b d : Int) (A : Option Addr) (N c : Nat) (i : Nat) (x : Bool) : (#[Value.int .i64 a, .int .i64 b, .slice A N c, .int .i64 d] : Array Value)[i]? ≠ some (.bool x) := by
  match i with
  | 0 => simp
  | 1 => simp
  | 2 => simp
  | 3 => simp
  | n + 4 => simp
section
variable {P : Program}
theorem wpList_append_one (w : World) {ops : Array Oper} {rest : List Oper} {o : Oper} {a : Act} {Q : Exit → Act → World → Prop} (hgd : o.guard = none) (s x : Operand) (t : TypeId)
    (ho : o.op = .call { callee := .builtin .append, args := #[s, x], argTypes := #[t, t] })
    (base : Nat) (e : TypeId) (i : TypeInfo) (z : Value) (bytes : Nat) (ht : P.underlying t = some (.slice e)) (hi : P.info? e = some i) (hz : i.zero = some z)
    (hsize : i.size = 1) (hby : i.bytes = bytes) (hzs : z.cells.size = 1) (v : Value) (n : Nat) (xs : List Value) (hs : a.eval s = v) (hown : w.ownsRow base e 1 v n xs) (src : Value) (hx : a.eval x = src) (g c : Nat) (u : Value) (hsrc : src = .slice (some ⟨g, 0, none⟩) 1 c) (hc : w.cell? ⟨g, 0, none⟩ = some u)
    (h1 : u.oneCell' = true) (h63 : n + 1 ≤ maxLen) (hbytes : (n + 1) * bytes ≤ 140737488355328) (hbase : base ≤ w.heap.size)
    (h : ∀ v' w', w'.ownsRow base e 1 v' (n + 1) (xs ++ [u]) → w.grownBy w' v.ownBlock → (v'.ownBlock = v.ownBlock ∨ v'.ownBlock = some w.heap.size) → wpList P ops Q rest (a.put o.dst v') w') : wpList P ops Q (o :: rest) a w := by
  subst hsrc
  refine wpList_plain hgd fun K hK => ?_
  obtain ⟨v', w', hrun, h2, h3, _, h4⟩ := run_append_own_at (P := P) w base t o.type e i z 1 bytes ht hi hz hsize hby hzs (by omega) v n xs hown ⟨g, 0, none⟩ 1 c [u] rfl (fun j y hj => by
    match j, hj with
    | 0, hj => cases hj; exact hc
    | j + 1, hj => simp at hj) (fun y hy => by obtain rfl := List.mem_singleton.1 hy; exact h1) h63 hbytes hbase
  unfold Oper.wp execOp
  simp only [ho, resolve, invoke, builtin, Sem.run_bind, Sem.run_pure, Result.andThen_ok, List.map_toArray, List.map_cons, List.map_nil, hs, hx, hrun]
  exact hK _ _ (h v' w' h2 h3 h4)
end
theorem eff_step {e j : Nat} (h : e ≤ j * 1048576) : e ≤ (j + 1) * 1048576 := Nat.le_trans h (Nat.mul_le_mul_right _ (Nat.le_succ j))
theorem eff_more {e s j : Nat} (h : e ≤ j * 1048576) (hs : s ≤ 1048576) : e + s ≤ (j + 1) * 1048576 := by rw [Nat.add_mul, Nat.one_mul]; exact Nat.add_le_add h hs
theorem eff_small {e j : Nat} (h : e ≤ j * 1048576) (hj : j ≤ 4096) : e ≤ 4294967296 := Nat.le_trans h (Nat.le_trans (Nat.mul_le_mul_right 1048576 hj) (by decide))
theorem zcl_lt {L : List Int} {j : Nat} (h : j < L.length) : ∃ f, L[j]? = some f ∧ L.drop j = f :: L.drop (j + 1) := ⟨_, List.getElem?_eq_getElem h, List.drop_eq_getElem_cons h⟩
theorem rules_at {S : Nat → Int × Int} {w : World} : ∀ (W : World), Blk W w.heap.size 26 #[.int .i64 (S 0).1, .int .i64 (S 0).2, .int .i64 (S 1).1, .int .i64 (S 1).2, .int .i64 (S 2).1, .int .i64 (S 2).2] → ∀ m, m < 3 → W.cell? ⟨w.heap.size, m * 2, none⟩ = some (.int .i64 (S m).1) := fun W K m hm => by
  rcases (by omega : m = 0 ∨ m = 1 ∨ m = 2) with rfl | rfl | rfl
  · exact (Blk.cell K 0).trans rfl
  · exact (Blk.cell K 2).trans rfl
  · exact (Blk.cell K 4).trans rfl
theorem ckS_two {S : Nat → Int × Int} (h : ckS S ≠ 0) : ckS S = 2 := by unfold ckS at h ⊢; split <;> simp_all
set_option maxRecDepth 100000 in
set_option maxHeartbeats 2000000 in
theorem run_bad (w : World) (S : Nat → Int × Int) (v : Value) (h : ckS S ≠ 0) :
    Calls Tryz.prog 60 #[schV S, v] w fun e w' => e = .returned (.tuple #[.agg #[.int .i64 0, .int .i64 0, .slice none 0 0, .int .i64 0], .slice none 0 0, .int .i64 0, .int .i64 0, .int .i64 2]) ∧ Below w.heap.size w w' := by
  have HC := hide (fun (W : World) => swck_any W S)
  unfold schV at HC ⊢
  rw [ckS_two h] at HC
  clear h
  have HB := allocs_below w [.cells #[.int .i64 (S 0).1, .int .i64 (S 0).2, .int .i64 (S 1).1, .int .i64 (S 1).2, .int .i64 (S 2).1, .int .i64 (S 2).2] 26, .cells #[.int .i64 0, .int .i64 0, .slice none 0 0, .int .i64 0] 29]
  have K_s : Blk (allocs w [.cells #[.int .i64 (S 0).1, .int .i64 (S 0).2, .int .i64 (S 1).1, .int .i64 (S 1).2, .int .i64 (S 2).1, .int .i64 (S 2).2] 26, .cells #[.int .i64 0, .int .i64 0, .slice none 0 0, .int .i64 0] 29]) (w.heap.size + 0) 26 #[.int .i64 (S 0).1, .int .i64 (S 0).2, .int .i64 (S 1).1, .int .i64 (S 1).2, .int .i64 (S 2).1, .int .i64 (S 2).2] := allocs_at w [.cells #[.int .i64 (S 0).1, .int .i64 (S 0).2, .int .i64 (S 1).1, .int .i64 (S 1).2, .int .i64 (S 2).1, .int .i64 (S 2).2] 26, .cells #[.int .i64 0, .int .i64 0, .slice none 0 0, .int .i64 0] 29] 0 rfl
  have K_x : Blk (allocs w [.cells #[.int .i64 (S 0).1, .int .i64 (S 0).2, .int .i64 (S 1).1, .int .i64 (S 1).2, .int .i64 (S 2).1, .int .i64 (S 2).2] 26, .cells #[.int .i64 0, .int .i64 0, .slice none 0 0, .int .i64 0] 29]) (w.heap.size + 1) 29 #[.int .i64 0, .int .i64 0, .slice none 0 0, .int .i64 0] := allocs_at w [.cells #[.int .i64 (S 0).1, .int .i64 (S 0).2, .int .i64 (S 1).1, .int .i64 (S 1).2, .int .i64 (S 2).1, .int .i64 (S 2).2] 26, .cells #[.int .i64 0, .int .i64 0, .slice none 0 0, .int .i64 0] 29] 1 rfl
  unfold allocs at HB K_s K_x
  simp only [List.foldl_cons, List.foldl_nil] at HB K_s K_x
  rw [Nat.add_zero] at K_s
  go_enter Tryz.func60, Tryz.ntmps60
  go_upto_region 1 with (fail)
  generalize ((w.alloc (.cells #[.int .i64 (S 0).1, .int .i64 (S 0).2, .int .i64 (S 1).1, .int .i64 (S 1).2, .int .i64 (S 2).1, .int .i64 (S 2).2] 26)).alloc (.cells #[.int .i64 0, .int .i64 0, .slice none 0 0, .int .i64 0] 29)) = w0 at *
  replace K_s := hide K_s
  replace K_x := hide K_x
  replace HB := hide HB
  have s0 := (Blk.cell K_s.out 0).trans (rfl : _ = some (Value.int .i64 (S 0).1))
  have s1 := (Blk.cell K_s.out 1).trans (rfl : _ = some (Value.int .i64 (S 0).2))
  have s2 := (Blk.cell K_s.out 2).trans (rfl : _ = some (Value.int .i64 (S 1).1))
  have s3 := (Blk.cell K_s.out 3).trans (rfl : _ = some (Value.int .i64 (S 1).2))
  have s4 := (Blk.cell K_s.out 4).trans (rfl : _ = some (Value.int .i64 (S 2).1))
  have s5 := (Blk.cell K_s.out 5).trans (rfl : _ = some (Value.int .i64 (S 2).2))
  go_wp2_with fail
  refine (HC.out _).mono ?_
  rintro e w1 ⟨rfl, hb⟩
  clear s0 s1 s2 s3 s4 s5
  replace K_s := hide (Blk.below K_s.out hb (Blk.lt K_s.out))
  replace K_x := hide (Blk.below K_x.out hb (Blk.lt K_x.out))
  replace HB := hide (HB.out.trans (hb.mono HB.out.size))
  clear hb
  have x0 := (Blk.cell K_x.out 0).trans (rfl : _ = some (Value.int .i64 0))
  have xf0 := Blk.frozen K_x.out 0
  have x1 := (Blk.cell K_x.out 1).trans (rfl : _ = some (Value.int .i64 0))
  have xf1 := Blk.frozen K_x.out 1
  have x2 := (Blk.cell K_x.out 2).trans (rfl : _ = some (Value.slice none 0 0))
  have xf2 := Blk.frozen K_x.out 2
  have x3 := (Blk.cell K_x.out 3).trans (rfl : _ = some (Value.int .i64 0))
  have xf3 := Blk.frozen K_x.out 3
  go_wp2_with fail
  have rc0 := (Blk.cell ((((K_x.out.set_ 0 (.int .i64 0)).set_ 1 (.int .i64 0)).set_ 2 (.slice none 0 0)).set_ 3 (.int .i64 0)) 0).trans (rfl : _ = some (Value.int .i64 0))
  have rc1 := (Blk.cell ((((K_x.out.set_ 0 (.int .i64 0)).set_ 1 (.int .i64 0)).set_ 2 (.slice none 0 0)).set_ 3 (.int .i64 0)) 1).trans (rfl : _ = some (Value.int .i64 0))
  have rc2 := (Blk.cell ((((K_x.out.set_ 0 (.int .i64 0)).set_ 1 (.int .i64 0)).set_ 2 (.slice none 0 0)).set_ 3 (.int .i64 0)) 2).trans (rfl : _ = some (Value.slice none 0 0))
  have rc3 := (Blk.cell ((((K_x.out.set_ 0 (.int .i64 0)).set_ 1 (.int .i64 0)).set_ 2 (.slice none 0 0)).set_ 3 (.int .i64 0)) 3).trans (rfl : _ = some (Value.int .i64 0))
  exact bodyPost_ret (v := .tuple #[.agg #[.int .i64 0, .int .i64 0, .slice none 0 0, .int .i64 0], .slice none 0 0, .int .i64 0, .int .i64 0, .int .i64 2]) (by simp [results, Tryz.results60, go_sem, rc0, rc1, rc2, rc3]) rfl ⟨rfl, ((((HB.out.setCell (p := ⟨(w.heap.size + 1), 0, none⟩) (by show w.heap.size ≤ (w.heap.size + 1); omega) (.int .i64 0)).setCell (p := ⟨(w.heap.size + 1), 1, none⟩) (by show w.heap.size ≤ (w.heap.size + 1); omega) (.int .i64 0)).setCell (p := ⟨(w.heap.size + 1), 2, none⟩) (by show w.heap.size ≤ (w.heap.size + 1); omega) (.slice none 0 0)).setCell (p := ⟨(w.heap.size + 1), 3, none⟩) (by show w.heap.size ≤ (w.heap.size + 1); omega) (.int .i64 0))⟩
set_option maxRecDepth 100000 in
set_option maxHeartbeats 2000000 in
theorem run_many (w : World) (S : Nat → Int × Int) (A : Option Addr) (len cap : Nat) (h : ckS S = 0) (hl : 4096 < len) :
    Calls Tryz.prog 60 #[schV S, .slice A len cap] w fun e w' => e = .returned (.tuple #[.agg #[.int .i64 0, .int .i64 0, .slice none 0 0, .int .i64 0], .slice none 0 0, .int .i64 0, .int .i64 0, .int .i64 5]) ∧ Below w.heap.size w w' := by
  have HC := hide (fun (W : World) => swck_any W S)
  unfold schV at HC ⊢
  rw [h] at HC
  have hli : (4096 : Int) < (len : Int) := by omega
  have hlm : 4096 < len := by omega
  clear h
  have HB := allocs_below w [.cells #[.int .i64 (S 0).1, .int .i64 (S 0).2, .int .i64 (S 1).1, .int .i64 (S 1).2, .int .i64 (S 2).1, .int .i64 (S 2).2] 26, .cells #[.int .i64 0, .int .i64 0, .slice none 0 0, .int .i64 0] 29]
  have K_s : Blk (allocs w [.cells #[.int .i64 (S 0).1, .int .i64 (S 0).2, .int .i64 (S 1).1, .int .i64 (S 1).2, .int .i64 (S 2).1, .int .i64 (S 2).2] 26, .cells #[.int .i64 0, .int .i64 0, .slice none 0 0, .int .i64 0] 29]) (w.heap.size + 0) 26 #[.int .i64 (S 0).1, .int .i64 (S 0).2, .int .i64 (S 1).1, .int .i64 (S 1).2, .int .i64 (S 2).1, .int .i64 (S 2).2] := allocs_at w [.cells #[.int .i64 (S 0).1, .int .i64 (S 0).2, .int .i64 (S 1).1, .int .i64 (S 1).2, .int .i64 (S 2).1, .int .i64 (S 2).2] 26, .cells #[.int .i64 0, .int .i64 0, .slice none 0 0, .int .i64 0] 29] 0 rfl
  have K_x : Blk (allocs w [.cells #[.int .i64 (S 0).1, .int .i64 (S 0).2, .int .i64 (S 1).1, .int .i64 (S 1).2, .int .i64 (S 2).1, .int .i64 (S 2).2] 26, .cells #[.int .i64 0, .int .i64 0, .slice none 0 0, .int .i64 0] 29]) (w.heap.size + 1) 29 #[.int .i64 0, .int .i64 0, .slice none 0 0, .int .i64 0] := allocs_at w [.cells #[.int .i64 (S 0).1, .int .i64 (S 0).2, .int .i64 (S 1).1, .int .i64 (S 1).2, .int .i64 (S 2).1, .int .i64 (S 2).2] 26, .cells #[.int .i64 0, .int .i64 0, .slice none 0 0, .int .i64 0] 29] 1 rfl
  unfold allocs at HB K_s K_x
  simp only [List.foldl_cons, List.foldl_nil] at HB K_s K_x
  rw [Nat.add_zero] at K_s
  go_enter Tryz.func60, Tryz.ntmps60
  go_upto_region 1 with (fail)
  generalize ((w.alloc (.cells #[.int .i64 (S 0).1, .int .i64 (S 0).2, .int .i64 (S 1).1, .int .i64 (S 1).2, .int .i64 (S 2).1, .int .i64 (S 2).2] 26)).alloc (.cells #[.int .i64 0, .int .i64 0, .slice none 0 0, .int .i64 0] 29)) = w0 at *
  replace K_s := hide K_s
  replace K_x := hide K_x
  replace HB := hide HB
  have s0 := (Blk.cell K_s.out 0).trans (rfl : _ = some (Value.int .i64 (S 0).1))
  have s1 := (Blk.cell K_s.out 1).trans (rfl : _ = some (Value.int .i64 (S 0).2))
  have s2 := (Blk.cell K_s.out 2).trans (rfl : _ = some (Value.int .i64 (S 1).1))
  have s3 := (Blk.cell K_s.out 3).trans (rfl : _ = some (Value.int .i64 (S 1).2))
  have s4 := (Blk.cell K_s.out 4).trans (rfl : _ = some (Value.int .i64 (S 2).1))
  have s5 := (Blk.cell K_s.out 5).trans (rfl : _ = some (Value.int .i64 (S 2).2))
  go_wp2_with fail
  refine (HC.out _).mono ?_
  rintro e w1 ⟨rfl, hb⟩
  clear s0 s1 s2 s3 s4 s5
  replace K_s := hide (Blk.below K_s.out hb (Blk.lt K_s.out))
  replace K_x := hide (Blk.below K_x.out hb (Blk.lt K_x.out))
  replace HB := hide (HB.out.trans (hb.mono HB.out.size))
  clear hb
  have x0 := (Blk.cell K_x.out 0).trans (rfl : _ = some (Value.int .i64 0))
  have xf0 := Blk.frozen K_x.out 0
  have x1 := (Blk.cell K_x.out 1).trans (rfl : _ = some (Value.int .i64 0))
  have xf1 := Blk.frozen K_x.out 1
  have x2 := (Blk.cell K_x.out 2).trans (rfl : _ = some (Value.slice none 0 0))
  have xf2 := Blk.frozen K_x.out 2
  have x3 := (Blk.cell K_x.out 3).trans (rfl : _ = some (Value.int .i64 0))
  have xf3 := Blk.frozen K_x.out 3
  go_wp2_with fail
  have rc0 := (Blk.cell ((((K_x.out.set_ 0 (.int .i64 0)).set_ 1 (.int .i64 0)).set_ 2 (.slice none 0 0)).set_ 3 (.int .i64 0)) 0).trans (rfl : _ = some (Value.int .i64 0))
  have rc1 := (Blk.cell ((((K_x.out.set_ 0 (.int .i64 0)).set_ 1 (.int .i64 0)).set_ 2 (.slice none 0 0)).set_ 3 (.int .i64 0)) 1).trans (rfl : _ = some (Value.int .i64 0))
  have rc2 := (Blk.cell ((((K_x.out.set_ 0 (.int .i64 0)).set_ 1 (.int .i64 0)).set_ 2 (.slice none 0 0)).set_ 3 (.int .i64 0)) 2).trans (rfl : _ = some (Value.slice none 0 0))
  have rc3 := (Blk.cell ((((K_x.out.set_ 0 (.int .i64 0)).set_ 1 (.int .i64 0)).set_ 2 (.slice none 0 0)).set_ 3 (.int .i64 0)) 3).trans (rfl : _ = some (Value.int .i64 0))
  exact bodyPost_ret (v := .tuple #[.agg #[.int .i64 0, .int .i64 0, .slice none 0 0, .int .i64 0], .slice none 0 0, .int .i64 0, .int .i64 0, .int .i64 5]) (by simp [results, Tryz.results60, go_sem, rc0, rc1, rc2, rc3]) rfl ⟨rfl, ((((HB.out.setCell (p := ⟨(w.heap.size + 1), 0, none⟩) (by show w.heap.size ≤ (w.heap.size + 1); omega) (.int .i64 0)).setCell (p := ⟨(w.heap.size + 1), 1, none⟩) (by show w.heap.size ≤ (w.heap.size + 1); omega) (.int .i64 0)).setCell (p := ⟨(w.heap.size + 1), 2, none⟩) (by show w.heap.size ≤ (w.heap.size + 1); omega) (.slice none 0 0)).setCell (p := ⟨(w.heap.size + 1), 3, none⟩) (by show w.heap.size ≤ (w.heap.size + 1); omega) (.int .i64 0))⟩
set_option maxRecDepth 100000 in
set_option maxHeartbeats 8000000 in
theorem run_any (w : World) (S : Nat → Int × Int) (v : Value) (L : List Int) (hv : SlL w v (zcl L)) (hS : ckS S = 0) (hL : L.length ≤ 4096) :
    Calls Tryz.prog 60 #[schV S, v] w (RunP w (goC (ruN S) L 0 cr0)) := by
  obtain ⟨i0, hi, hz0, hz1, hz2⟩ := info_parts info_bool
  obtain ⟨AL, cL, rfl, -, hc⟩ := hv
  rw [zcl_len] at hc ⊢
  have HC := hide (fun (W : World) => swck_any W S)
  rw [hS] at HC
  have HSS := hide hS
  have HLC := hide hc
  obtain ⟨n, hn⟩ : ∃ n, L.length = n := ⟨_, rfl⟩
  rw [hn] at HLC hL ⊢
  have HN := hide hn
  have hLi : ¬ (4096 : Int) < (n : Int) := by omega
  have HRB := hide (fun (W : World) (mode run rej z : Int) (v : Value) (l : List Bool) hv hl hz h => swrst_bad W mode run rej z v l hv hl hz h)
  have HRO := hide (fun (W : World) (run rej : Int) (v : Value) (l : List Bool) hv hl h => swrst_ok W run rej v l hv hl h)
  have HNB := hide (fun (W : World) (mode run rej found z : Int) (v : Value) (l : List Bool) hv hl hz h => swnext_bad W S mode run rej found z v l hv hl hz h)
  have HNO := hide (fun (W : World) (x : Sw) (found : Int) (v : Value) hv hx h3 h0 hf => swnext_ok W S x found v hv hS hx h3 h0 hf)
  unfold schV at HC HNB HNO ⊢
  clear hS hc hn
  have HB := allocs_below w [.cells #[.int .i64 (S 0).1, .int .i64 (S 0).2, .int .i64 (S 1).1, .int .i64 (S 1).2, .int .i64 (S 2).1, .int .i64 (S 2).2] 26, .cells #[.int .i64 0, .int .i64 0, .slice none 0 0, .int .i64 0] 29]
  have K_s : Blk (allocs w [.cells #[.int .i64 (S 0).1, .int .i64 (S 0).2, .int .i64 (S 1).1, .int .i64 (S 1).2, .int .i64 (S 2).1, .int .i64 (S 2).2] 26, .cells #[.int .i64 0, .int .i64 0, .slice none 0 0, .int .i64 0] 29]) (w.heap.size + 0) 26 #[.int .i64 (S 0).1, .int .i64 (S 0).2, .int .i64 (S 1).1, .int .i64 (S 1).2, .int .i64 (S 2).1, .int .i64 (S 2).2] := allocs_at w [.cells #[.int .i64 (S 0).1, .int .i64 (S 0).2, .int .i64 (S 1).1, .int .i64 (S 1).2, .int .i64 (S 2).1, .int .i64 (S 2).2] 26, .cells #[.int .i64 0, .int .i64 0, .slice none 0 0, .int .i64 0] 29] 0 rfl
  have K_x : Blk (allocs w [.cells #[.int .i64 (S 0).1, .int .i64 (S 0).2, .int .i64 (S 1).1, .int .i64 (S 1).2, .int .i64 (S 2).1, .int .i64 (S 2).2] 26, .cells #[.int .i64 0, .int .i64 0, .slice none 0 0, .int .i64 0] 29]) (w.heap.size + 1) 29 #[.int .i64 0, .int .i64 0, .slice none 0 0, .int .i64 0] := allocs_at w [.cells #[.int .i64 (S 0).1, .int .i64 (S 0).2, .int .i64 (S 1).1, .int .i64 (S 1).2, .int .i64 (S 2).1, .int .i64 (S 2).2] 26, .cells #[.int .i64 0, .int .i64 0, .slice none 0 0, .int .i64 0] 29] 1 rfl
  unfold allocs at HB K_s K_x
  simp only [List.foldl_cons, List.foldl_nil] at HB K_s K_x
  rw [Nat.add_zero] at K_s
  go_enter Tryz.func60, Tryz.ntmps60
  go_upto_region 1 with (fail)
  generalize ((w.alloc (.cells #[.int .i64 (S 0).1, .int .i64 (S 0).2, .int .i64 (S 1).1, .int .i64 (S 1).2, .int .i64 (S 2).1, .int .i64 (S 2).2] 26)).alloc (.cells #[.int .i64 0, .int .i64 0, .slice none 0 0, .int .i64 0] 29)) = w0 at *
  replace K_s := hide K_s
  replace K_x := hide K_x
  replace HB := hide HB
  have s0 := (Blk.cell K_s.out 0).trans (rfl : _ = some (Value.int .i64 (S 0).1))
  have s1 := (Blk.cell K_s.out 1).trans (rfl : _ = some (Value.int .i64 (S 0).2))
  have s2 := (Blk.cell K_s.out 2).trans (rfl : _ = some (Value.int .i64 (S 1).1))
  have s3 := (Blk.cell K_s.out 3).trans (rfl : _ = some (Value.int .i64 (S 1).2))
  have s4 := (Blk.cell K_s.out 4).trans (rfl : _ = some (Value.int .i64 (S 2).1))
  have s5 := (Blk.cell K_s.out 5).trans (rfl : _ = some (Value.int .i64 (S 2).2))
  go_wp2_with fail
  refine (HC.out _).mono ?_
  rintro e w1 ⟨rfl, hb⟩
  clear s0 s1 s2 s3 s4 s5
  replace K_s := hide (Blk.below K_s.out hb (Blk.lt K_s.out))
  replace K_x := hide (Blk.below K_x.out hb (Blk.lt K_x.out))
  replace HB := hide (HB.out.trans (hb.mono HB.out.size))
  clear hb
  go_wp2_with fail
  go_loopg [5, 6, 26] n (fun z rv ev iv wr => ∃ (j : Nat) (x : Cr) (A : Option Addr) (N c : Nat), iv = .int .i64 (j : Int) ∧ z + j = n ∧ ev = .int .i64 (x.eff : Int) ∧ goC (ruN S) L 0 cr0 = goC (ruN S) (L.drop j) j x ∧ RightS x.st ∧ x.res.length ≤ j ∧ x.eff ≤ j * 1048576 ∧ wr.ownsRow (w.heap.size + 2) 4 1 rv x.res.length (bcl x.res) ∧ Blk wr (w.heap.size + 1) 29 #[.int .i64 (x.st.mode : Int), .int .i64 (x.st.run : Int), .slice A N c, .int .i64 (x.st.rej : Int)] ∧ SlL wr (.slice A N c) (bcl x.st.last) ∧ ApartV (.slice A N c) rv ∧ Blk wr w.heap.size 26 #[.int .i64 (S 0).1, .int .i64 (S 0).2, .int .i64 (S 1).1, .int .i64 (S 1).2, .int .i64 (S 2).1, .int .i64 (S 2).2] ∧ Below w.heap.size w wr ∧ w.heap.size + 2 ≤ wr.heap.size)
  case atStart => exact ⟨0, cr0, none, 0, 0, rfl, rfl, rfl, rfl, swB_right (by omega), Nat.le_refl _, by show 0 ≤ 0 * 1048576; omega, ⟨rfl, .inl ⟨rfl, rfl⟩⟩, K_x.out, SlL.nil _, ApartV.nil _, K_s.out, HB.out, by have := Blk.lt K_x.out; omega⟩
  case round =>
    obtain ⟨j, x, A, N, c, rfl, hq, rfl, hgo, hrx, hrl, hef, hown, hkx, hsl, hap, hks, hb, hsz⟩ := hrel
    have HQ := hide hq
    have HGO := hide hgo
    have HRX := hide hrx
    have HOW := hide hown
    have K_x2 := hide hkx
    have HSL := hide hsl
    have HAP := hide hap
    have K_s2 := hide hks
    have HB2 := hide hb
    have HSZ := hide hsz
    have HEF := hide hef
    have hj : j ≤ n := by omega
    have hbw := hb.size
    clear hq hgo hrx hown hkx hsl hap hks hb hsz hef K_x K_s HB HC
    have hlen4 := (rightI_zero HRX.out).2.2.2.2.2.2.1
    have hrules := rules_at (S := S) (w := w)
    by_cases hlt : j < n
    · have hji : (j : Int) < (n : Int) := by omega
      have hj0 : (0 : Int) ≤ (j : Int) := by omega
      obtain ⟨g, og, rfl, hcell⟩ := HLC.out (by omega)
      obtain ⟨fd, hfd, hdr⟩ := zcl_lt (L := L) (j := j) (by rw [HN.out]; exact hlt)
      have a := hcell j _ (zcl_at hfd)
      have a2 := (bcell HB2.out _ _ (block_lt_of_cell a)).trans a
      have hgo := HGO.out
      rw [hdr, goC_cons] at hgo
      have HGO2 := hide hgo
      clear a hcell hfd hdr hgo HGO HLC
      by_cases h1 : fd = -1
      · subst h1
        by_cases h3 : x.st.mode = 3
        · have hst : stepC (ruN S) x (-1) = .inl ⟨swB 1, x.res, x.eff⟩ := by unfold stepC; rw [if_pos rfl, if_pos h3]
          have HST := hide hst
          have h3i : (x.st.mode : Int) = 3 := by omega
          have hz : rightI 3 (x.st.run : Int) x.st.last (x.st.rej : Int) = 0 := by rw [← h3i]; exact HRX.out
          have HZ := hide hz
          have HX3 := hide h3i
          clear hst hz h3i h3
          have KX3 := K_x2.out
          rw [HX3.out] at KX3
          have HOX := HOW.out
          replace K_x2 := hide KX3
          clear KX3
          have x20 := (Blk.cell K_x2.out 0).trans (rfl : _ = some (Value.int .i64 3))
          have x21 := (Blk.cell K_x2.out 1).trans (rfl : _ = some (Value.int .i64 (x.st.run : Int)))
          have x22 := (Blk.cell K_x2.out 2).trans (rfl : _ = some (Value.slice A N c))
          have x23 := (Blk.cell K_x2.out 3).trans (rfl : _ = some (Value.int .i64 (x.st.rej : Int)))
          go_wp2_with fail
          refine (HRO.out _ (x.st.run : Int) (x.st.rej : Int) (.slice A N c) x.st.last HSL.out (by omega) HZ.out).mono ?_
          rintro e wb ⟨rfl, hb⟩
          have HOB := hide (owns_below HOX hb)
          clear HOX
          clear x20 x21 x22 x23
          replace K_x2 := hide (Blk.below K_x2.out hb (Blk.lt K_x2.out))
          replace K_s2 := hide (Blk.below K_s2.out hb (Blk.lt K_s2.out))
          replace HB2 := hide (HB2.out.trans (hb.mono HB2.out.size))
          clear hb
          have x20 := (Blk.cell K_x2.out 0).trans (rfl : _ = some (Value.int .i64 3))
          have x2f0 := Blk.frozen K_x2.out 0
          have x21 := (Blk.cell K_x2.out 1).trans (rfl : _ = some (Value.int .i64 (x.st.run : Int)))
          have x2f1 := Blk.frozen K_x2.out 1
          have x22 := (Blk.cell K_x2.out 2).trans (rfl : _ = some (Value.slice A N c))
          have x2f2 := Blk.frozen K_x2.out 2
          have x23 := (Blk.cell K_x2.out 3).trans (rfl : _ = some (Value.int .i64 (x.st.rej : Int)))
          have x2f3 := Blk.frozen K_x2.out 3
          go_upto_region 11 with (fail)
          clear x20 x2f0 x21 x2f1 x22 x2f2 x23 x2f3
          have kx : Blk ((((wb.setCell ⟨w.heap.size + 1, 0, none⟩ (.int .i64 1)).setCell ⟨w.heap.size + 1, 1, none⟩ (.int .i64 0)).setCell ⟨w.heap.size + 1, 2, none⟩ (.slice none 0 0)).setCell ⟨w.heap.size + 1, 3, none⟩ (.int .i64 0)) (w.heap.size + 1) 29 #[.int .i64 1, .int .i64 0, .slice none 0 0, .int .i64 0] := ((((K_x2.out.set_ 0 (.int .i64 1)).set_ 1 (.int .i64 0)).set_ 2 (.slice none 0 0)).set_ 3 (.int .i64 0))
          have ks := ((((K_s2.out.far (p := ⟨w.heap.size + 1, 0, none⟩) (by show w.heap.size ≠ w.heap.size + 1; omega) (.int .i64 1)).far (p := ⟨w.heap.size + 1, 1, none⟩) (by show w.heap.size ≠ w.heap.size + 1; omega) (.int .i64 0)).far (p := ⟨w.heap.size + 1, 2, none⟩) (by show w.heap.size ≠ w.heap.size + 1; omega) (.slice none 0 0)).far (p := ⟨w.heap.size + 1, 3, none⟩) (by show w.heap.size ≠ w.heap.size + 1; omega) (.int .i64 0))
          have hb4 := ((((HB2.out.setCell (p := ⟨w.heap.size + 1, 0, none⟩) (by show w.heap.size ≤ w.heap.size + 1; omega) (.int .i64 1)).setCell (p := ⟨w.heap.size + 1, 1, none⟩) (by show w.heap.size ≤ w.heap.size + 1; omega) (.int .i64 0)).setCell (p := ⟨w.heap.size + 1, 2, none⟩) (by show w.heap.size ≤ w.heap.size + 1; omega) (.slice none 0 0)).setCell (p := ⟨w.heap.size + 1, 3, none⟩) (by show w.heap.size ≤ w.heap.size + 1; omega) (.int .i64 0))
          replace HOB := (ownsRow_setCell_below (ownsRow_setCell_below (ownsRow_setCell_below (ownsRow_setCell_below HOB.out (a := ⟨w.heap.size + 1, 0, none⟩) (by show w.heap.size + 1 < w.heap.size + 2; omega) (.int .i64 1)) (a := ⟨w.heap.size + 1, 1, none⟩) (by show w.heap.size + 1 < w.heap.size + 2; omega) (.int .i64 0)) (a := ⟨w.heap.size + 1, 2, none⟩) (by show w.heap.size + 1 < w.heap.size + 2; omega) (.slice none 0 0)) (a := ⟨w.heap.size + 1, 3, none⟩) (by show w.heap.size + 1 < w.heap.size + 2; omega) (.int .i64 0))
          generalize ((((wb.setCell ⟨w.heap.size + 1, 0, none⟩ (.int .i64 1)).setCell ⟨w.heap.size + 1, 1, none⟩ (.int .i64 0)).setCell ⟨w.heap.size + 1, 2, none⟩ (.slice none 0 0)).setCell ⟨w.heap.size + 1, 3, none⟩ (.int .i64 0)) = w4 at kx ks hb4 HOB ⊢
          replace K_x2 := hide kx
          replace K_s2 := hide ks
          replace HB2 := hide hb4
          replace HOB := hide HOB
          clear kx ks hb4
          have hw4s : w.heap.size + 2 ≤ w4.heap.size := by have := Blk.lt K_x2.out; omega
          have HW4 := hide hw4s
          clear hw4s
          go_wp2_with fail
          go_roundg (gk - 1)
          case measure => have := HQ.out; omega
          case rel => exact ⟨j + 1, ⟨swB 1, x.res, x.eff⟩, none, 0, 0, by go_num, by have := HQ.out; omega, rfl, HGO2.out.trans (by rw [HST.out]), swB_right (by omega), by show x.res.length ≤ j + 1; omega, eff_step HEF.out, HOB.out, K_x2.out, SlL.nil _, ApartV.nil _, K_s2.out, HB2.out, HW4.out⟩
        · have HG := hide (HGO2.out.trans (by unfold stepC; rw [if_pos rfl, if_neg h3]))
          have hz : rstE (x.st.mode : Int) (x.st.run : Int) x.st.last (x.st.rej : Int) = 14 := by unfold rstE; rw [show rightI (x.st.mode : Int) (x.st.run : Int) x.st.last (x.st.rej : Int) = 0 from HRX.out, if_neg (by simp), if_pos (by omega)]
          have HZ := hide hz
          clear hz HGO2
          have x20 := (Blk.cell K_x2.out 0).trans (rfl : _ = some (Value.int .i64 (x.st.mode : Int)))
          have x21 := (Blk.cell K_x2.out 1).trans (rfl : _ = some (Value.int .i64 (x.st.run : Int)))
          have x22 := (Blk.cell K_x2.out 2).trans (rfl : _ = some (Value.slice A N c))
          have x23 := (Blk.cell K_x2.out 3).trans (rfl : _ = some (Value.int .i64 (x.st.rej : Int)))
          go_wp2_with fail
          refine (HRB.out _ (x.st.mode : Int) (x.st.run : Int) (x.st.rej : Int) 14 (.slice A N c) x.st.last HSL.out (by omega) (by omega) HZ.out).mono ?_
          rintro e wb ⟨rfl, hb⟩
          clear x20 x21 x22 x23
          replace K_x2 := hide (Blk.below K_x2.out hb (Blk.lt K_x2.out))
          replace K_s2 := hide (Blk.below K_s2.out hb (Blk.lt K_s2.out))
          replace HB2 := hide (HB2.out.trans (hb.mono HB2.out.size))
          clear hb
          have x20 := (Blk.cell K_x2.out 0).trans (rfl : _ = some (Value.int .i64 (x.st.mode : Int)))
          have x2f0 := Blk.frozen K_x2.out 0
          have x21 := (Blk.cell K_x2.out 1).trans (rfl : _ = some (Value.int .i64 (x.st.run : Int)))
          have x2f1 := Blk.frozen K_x2.out 1
          have x22 := (Blk.cell K_x2.out 2).trans (rfl : _ = some (Value.slice A N c))
          have x2f2 := Blk.frozen K_x2.out 2
          have x23 := (Blk.cell K_x2.out 3).trans (rfl : _ = some (Value.int .i64 (x.st.rej : Int)))
          have x2f3 := Blk.frozen K_x2.out 3
          go_upto_region 11 with (fail)
          clear x20 x2f0 x21 x2f1 x22 x2f2 x23 x2f3
          have kx : Blk ((((wb.setCell ⟨w.heap.size + 1, 0, none⟩ (.int .i64 0)).setCell ⟨w.heap.size + 1, 1, none⟩ (.int .i64 0)).setCell ⟨w.heap.size + 1, 2, none⟩ (.slice none 0 0)).setCell ⟨w.heap.size + 1, 3, none⟩ (.int .i64 0)) (w.heap.size + 1) 29 #[.int .i64 0, .int .i64 0, .slice none 0 0, .int .i64 0] := ((((K_x2.out.set_ 0 (.int .i64 0)).set_ 1 (.int .i64 0)).set_ 2 (.slice none 0 0)).set_ 3 (.int .i64 0))
          have ks := ((((K_s2.out.far (p := ⟨w.heap.size + 1, 0, none⟩) (by show w.heap.size ≠ w.heap.size + 1; omega) (.int .i64 0)).far (p := ⟨w.heap.size + 1, 1, none⟩) (by show w.heap.size ≠ w.heap.size + 1; omega) (.int .i64 0)).far (p := ⟨w.heap.size + 1, 2, none⟩) (by show w.heap.size ≠ w.heap.size + 1; omega) (.slice none 0 0)).far (p := ⟨w.heap.size + 1, 3, none⟩) (by show w.heap.size ≠ w.heap.size + 1; omega) (.int .i64 0))
          have hb4 := ((((HB2.out.setCell (p := ⟨w.heap.size + 1, 0, none⟩) (by show w.heap.size ≤ w.heap.size + 1; omega) (.int .i64 0)).setCell (p := ⟨w.heap.size + 1, 1, none⟩) (by show w.heap.size ≤ w.heap.size + 1; omega) (.int .i64 0)).setCell (p := ⟨w.heap.size + 1, 2, none⟩) (by show w.heap.size ≤ w.heap.size + 1; omega) (.slice none 0 0)).setCell (p := ⟨w.heap.size + 1, 3, none⟩) (by show w.heap.size ≤ w.heap.size + 1; omega) (.int .i64 0))
          generalize ((((wb.setCell ⟨w.heap.size + 1, 0, none⟩ (.int .i64 0)).setCell ⟨w.heap.size + 1, 1, none⟩ (.int .i64 0)).setCell ⟨w.heap.size + 1, 2, none⟩ (.slice none 0 0)).setCell ⟨w.heap.size + 1, 3, none⟩ (.int .i64 0)) = w4 at kx ks hb4 ⊢
          replace K_x2 := hide kx
          replace K_s2 := hide ks
          replace HB2 := hide hb4
          clear kx ks hb4
          have x20 := (Blk.cell K_x2.out 0).trans (rfl : _ = some (Value.int .i64 0))
          have x2f0 := Blk.frozen K_x2.out 0
          have x21 := (Blk.cell K_x2.out 1).trans (rfl : _ = some (Value.int .i64 0))
          have x2f1 := Blk.frozen K_x2.out 1
          have x22 := (Blk.cell K_x2.out 2).trans (rfl : _ = some (Value.slice none 0 0))
          have x2f2 := Blk.frozen K_x2.out 2
          have x23 := (Blk.cell K_x2.out 3).trans (rfl : _ = some (Value.int .i64 0))
          have x2f3 := Blk.frozen K_x2.out 3
          go_wp2_with fail
          have kf : Blk _ (w.heap.size + 1) 29 #[.int .i64 0, .int .i64 0, .slice none 0 0, .int .i64 0] := ((((K_x2.out.set_ 0 (.int .i64 0)).set_ 1 (.int .i64 0)).set_ 2 (.slice none 0 0)).set_ 3 (.int .i64 0))
          have rc0 := (Blk.cell kf 0).trans (rfl : _ = some (Value.int .i64 0))
          have rc1 := (Blk.cell kf 1).trans (rfl : _ = some (Value.int .i64 0))
          have rc2 := (Blk.cell kf 2).trans (rfl : _ = some (Value.slice none 0 0))
          have rc3 := (Blk.cell kf 3).trans (rfl : _ = some (Value.int .i64 0))
          exact bodyPost_ret (v := .tuple #[.agg #[.int .i64 0, .int .i64 0, .slice none 0 0, .int .i64 0], .slice none 0 0, .int .i64 0, .int .i64 (j : Int), .int .i64 14]) (by simp [results, Tryz.results60, go_sem, rc0, rc1, rc2, rc3]) rfl (RunP.err HG.out rfl ((((HB2.out.setCell (p := ⟨(w.heap.size + 1), 0, none⟩) (by show w.heap.size ≤ w.heap.size + 1; omega) (.int .i64 0)).setCell (p := ⟨(w.heap.size + 1), 1, none⟩) (by show w.heap.size ≤ w.heap.size + 1; omega) (.int .i64 0)).setCell (p := ⟨(w.heap.size + 1), 2, none⟩) (by show w.heap.size ≤ w.heap.size + 1; omega) (.slice none 0 0)).setCell (p := ⟨(w.heap.size + 1), 3, none⟩) (by show w.heap.size ≤ w.heap.size + 1; omega) (.int .i64 0)))
      · by_cases h3 : x.st.mode = 3
        · have HG := hide (HGO2.out.trans (by unfold stepC; rw [if_neg h1, if_pos h3]))
          have hz : nextE S (x.st.mode : Int) (x.st.run : Int) x.st.last (x.st.rej : Int) fd = 14 := by
            unfold nextE
            rw [if_neg (by rw [HSS.out]; simp), if_neg (by rw [show rightI (x.st.mode : Int) (x.st.run : Int) x.st.last (x.st.rej : Int) = 0 from HRX.out]; simp), if_pos (by omega)]
          have HZ := hide hz
          clear hz HGO2 h3
          have hf1 : (fd == -1) = false := by simpa using h1
          have x20 := (Blk.cell K_x2.out 0).trans (rfl : _ = some (Value.int .i64 (x.st.mode : Int)))
          have x21 := (Blk.cell K_x2.out 1).trans (rfl : _ = some (Value.int .i64 (x.st.run : Int)))
          have x22 := (Blk.cell K_x2.out 2).trans (rfl : _ = some (Value.slice A N c))
          have x23 := (Blk.cell K_x2.out 3).trans (rfl : _ = some (Value.int .i64 (x.st.rej : Int)))
          have s20 := (Blk.cell K_s2.out 0).trans (rfl : _ = some (Value.int .i64 (S 0).1))
          have s21 := (Blk.cell K_s2.out 1).trans (rfl : _ = some (Value.int .i64 (S 0).2))
          have s22 := (Blk.cell K_s2.out 2).trans (rfl : _ = some (Value.int .i64 (S 1).1))
          have s23 := (Blk.cell K_s2.out 3).trans (rfl : _ = some (Value.int .i64 (S 1).2))
          have s24 := (Blk.cell K_s2.out 4).trans (rfl : _ = some (Value.int .i64 (S 2).1))
          have s25 := (Blk.cell K_s2.out 5).trans (rfl : _ = some (Value.int .i64 (S 2).2))
          go_wp2_with fail
          refine (HNB.out _ (x.st.mode : Int) (x.st.run : Int) (x.st.rej : Int) fd 14 (.slice A N c) x.st.last HSL.out (by omega) (by omega) HZ.out).mono ?_
          rintro e wb ⟨rfl, hb⟩
          clear x20 x21 x22 x23 s20 s21 s22 s23 s24 s25
          replace K_x2 := hide (Blk.below K_x2.out hb (Blk.lt K_x2.out))
          replace K_s2 := hide (Blk.below K_s2.out hb (Blk.lt K_s2.out))
          replace HB2 := hide (HB2.out.trans (hb.mono HB2.out.size))
          clear hb
          have x20 := (Blk.cell K_x2.out 0).trans (rfl : _ = some (Value.int .i64 (x.st.mode : Int)))
          have x2f0 := Blk.frozen K_x2.out 0
          have x21 := (Blk.cell K_x2.out 1).trans (rfl : _ = some (Value.int .i64 (x.st.run : Int)))
          have x2f1 := Blk.frozen K_x2.out 1
          have x22 := (Blk.cell K_x2.out 2).trans (rfl : _ = some (Value.slice A N c))
          have x2f2 := Blk.frozen K_x2.out 2
          have x23 := (Blk.cell K_x2.out 3).trans (rfl : _ = some (Value.int .i64 (x.st.rej : Int)))
          have x2f3 := Blk.frozen K_x2.out 3
          go_upto_region 16 with (fail)
          clear x20 x2f0 x21 x2f1 x22 x2f2 x23 x2f3
          have kx : Blk ((((wb.setCell ⟨w.heap.size + 1, 0, none⟩ (.int .i64 0)).setCell ⟨w.heap.size + 1, 1, none⟩ (.int .i64 0)).setCell ⟨w.heap.size + 1, 2, none⟩ (.slice none 0 0)).setCell ⟨w.heap.size + 1, 3, none⟩ (.int .i64 0)) (w.heap.size + 1) 29 #[.int .i64 0, .int .i64 0, .slice none 0 0, .int .i64 0] := ((((K_x2.out.set_ 0 (.int .i64 0)).set_ 1 (.int .i64 0)).set_ 2 (.slice none 0 0)).set_ 3 (.int .i64 0))
          have ks := ((((K_s2.out.far (p := ⟨w.heap.size + 1, 0, none⟩) (by show w.heap.size ≠ w.heap.size + 1; omega) (.int .i64 0)).far (p := ⟨w.heap.size + 1, 1, none⟩) (by show w.heap.size ≠ w.heap.size + 1; omega) (.int .i64 0)).far (p := ⟨w.heap.size + 1, 2, none⟩) (by show w.heap.size ≠ w.heap.size + 1; omega) (.slice none 0 0)).far (p := ⟨w.heap.size + 1, 3, none⟩) (by show w.heap.size ≠ w.heap.size + 1; omega) (.int .i64 0))
          have hb4 := ((((HB2.out.setCell (p := ⟨w.heap.size + 1, 0, none⟩) (by show w.heap.size ≤ w.heap.size + 1; omega) (.int .i64 0)).setCell (p := ⟨w.heap.size + 1, 1, none⟩) (by show w.heap.size ≤ w.heap.size + 1; omega) (.int .i64 0)).setCell (p := ⟨w.heap.size + 1, 2, none⟩) (by show w.heap.size ≤ w.heap.size + 1; omega) (.slice none 0 0)).setCell (p := ⟨w.heap.size + 1, 3, none⟩) (by show w.heap.size ≤ w.heap.size + 1; omega) (.int .i64 0))
          generalize ((((wb.setCell ⟨w.heap.size + 1, 0, none⟩ (.int .i64 0)).setCell ⟨w.heap.size + 1, 1, none⟩ (.int .i64 0)).setCell ⟨w.heap.size + 1, 2, none⟩ (.slice none 0 0)).setCell ⟨w.heap.size + 1, 3, none⟩ (.int .i64 0)) = w4 at kx ks hb4 ⊢
          replace K_x2 := hide kx
          replace K_s2 := hide ks
          replace HB2 := hide hb4
          clear kx ks hb4
          have x20 := (Blk.cell K_x2.out 0).trans (rfl : _ = some (Value.int .i64 0))
          have x2f0 := Blk.frozen K_x2.out 0
          have x21 := (Blk.cell K_x2.out 1).trans (rfl : _ = some (Value.int .i64 0))
          have x2f1 := Blk.frozen K_x2.out 1
          have x22 := (Blk.cell K_x2.out 2).trans (rfl : _ = some (Value.slice none 0 0))
          have x2f2 := Blk.frozen K_x2.out 2
          have x23 := (Blk.cell K_x2.out 3).trans (rfl : _ = some (Value.int .i64 0))
          have x2f3 := Blk.frozen K_x2.out 3
          go_wp2_with fail
          have kf : Blk _ (w.heap.size + 1) 29 #[.int .i64 0, .int .i64 0, .slice none 0 0, .int .i64 0] := ((((K_x2.out.set_ 0 (.int .i64 0)).set_ 1 (.int .i64 0)).set_ 2 (.slice none 0 0)).set_ 3 (.int .i64 0))
          have rc0 := (Blk.cell kf 0).trans (rfl : _ = some (Value.int .i64 0))
          have rc1 := (Blk.cell kf 1).trans (rfl : _ = some (Value.int .i64 0))
          have rc2 := (Blk.cell kf 2).trans (rfl : _ = some (Value.slice none 0 0))
          have rc3 := (Blk.cell kf 3).trans (rfl : _ = some (Value.int .i64 0))
          exact bodyPost_ret (v := .tuple #[.agg #[.int .i64 0, .int .i64 0, .slice none 0 0, .int .i64 0], .slice none 0 0, .int .i64 0, .int .i64 (j : Int), .int .i64 14]) (by simp [results, Tryz.results60, go_sem, rc0, rc1, rc2, rc3]) rfl (RunP.err HG.out rfl ((((HB2.out.setCell (p := ⟨(w.heap.size + 1), 0, none⟩) (by show w.heap.size ≤ w.heap.size + 1; omega) (.int .i64 0)).setCell (p := ⟨(w.heap.size + 1), 1, none⟩) (by show w.heap.size ≤ w.heap.size + 1; omega) (.int .i64 0)).setCell (p := ⟨(w.heap.size + 1), 2, none⟩) (by show w.heap.size ≤ w.heap.size + 1; omega) (.slice none 0 0)).setCell (p := ⟨(w.heap.size + 1), 3, none⟩) (by show w.heap.size ≤ w.heap.size + 1; omega) (.int .i64 0)))
        · have hm3 : x.st.mode < 3 := by have := (rightI_zero HRX.out).2.1; omega
          by_cases hrg : fd < 0 ∨ ((ruN S x.st.mode).1 : Int) < fd
          · have HG := hide (HGO2.out.trans (by unfold stepC; rw [if_neg h1, if_neg h3, if_pos hrg]))
            have hz : nextE S (x.st.mode : Int) (x.st.run : Int) x.st.last (x.st.rej : Int) fd = 2 := by
              unfold nextE
              rw [if_neg (by rw [HSS.out]; simp), if_neg (by rw [show rightI (x.st.mode : Int) (x.st.run : Int) x.st.last (x.st.rej : Int) = 0 from HRX.out]; simp), if_neg (by omega), if_pos (by rw [Int.toNat_natCast, (ruN_at HSS.out hm3).1]; exact hrg)]
            have HZ := hide hz
            clear hz HGO2 h3
            have hf1 : (fd == -1) = false := by simpa using h1
            clear hrg hm3
            have x20 := (Blk.cell K_x2.out 0).trans (rfl : _ = some (Value.int .i64 (x.st.mode : Int)))
            have x21 := (Blk.cell K_x2.out 1).trans (rfl : _ = some (Value.int .i64 (x.st.run : Int)))
            have x22 := (Blk.cell K_x2.out 2).trans (rfl : _ = some (Value.slice A N c))
            have x23 := (Blk.cell K_x2.out 3).trans (rfl : _ = some (Value.int .i64 (x.st.rej : Int)))
            have s20 := (Blk.cell K_s2.out 0).trans (rfl : _ = some (Value.int .i64 (S 0).1))
            have s21 := (Blk.cell K_s2.out 1).trans (rfl : _ = some (Value.int .i64 (S 0).2))
            have s22 := (Blk.cell K_s2.out 2).trans (rfl : _ = some (Value.int .i64 (S 1).1))
            have s23 := (Blk.cell K_s2.out 3).trans (rfl : _ = some (Value.int .i64 (S 1).2))
            have s24 := (Blk.cell K_s2.out 4).trans (rfl : _ = some (Value.int .i64 (S 2).1))
            have s25 := (Blk.cell K_s2.out 5).trans (rfl : _ = some (Value.int .i64 (S 2).2))
            go_wp2_with fail
            refine (HNB.out _ (x.st.mode : Int) (x.st.run : Int) (x.st.rej : Int) fd 2 (.slice A N c) x.st.last HSL.out (by omega) (by omega) HZ.out).mono ?_
            rintro e wb ⟨rfl, hb⟩
            clear x20 x21 x22 x23 s20 s21 s22 s23 s24 s25
            replace K_x2 := hide (Blk.below K_x2.out hb (Blk.lt K_x2.out))
            replace K_s2 := hide (Blk.below K_s2.out hb (Blk.lt K_s2.out))
            replace HB2 := hide (HB2.out.trans (hb.mono HB2.out.size))
            clear hb
            have x20 := (Blk.cell K_x2.out 0).trans (rfl : _ = some (Value.int .i64 (x.st.mode : Int)))
            have x2f0 := Blk.frozen K_x2.out 0
            have x21 := (Blk.cell K_x2.out 1).trans (rfl : _ = some (Value.int .i64 (x.st.run : Int)))
            have x2f1 := Blk.frozen K_x2.out 1
            have x22 := (Blk.cell K_x2.out 2).trans (rfl : _ = some (Value.slice A N c))
            have x2f2 := Blk.frozen K_x2.out 2
            have x23 := (Blk.cell K_x2.out 3).trans (rfl : _ = some (Value.int .i64 (x.st.rej : Int)))
            have x2f3 := Blk.frozen K_x2.out 3
            go_upto_region 16 with (fail)
            clear x20 x2f0 x21 x2f1 x22 x2f2 x23 x2f3
            have kx : Blk ((((wb.setCell ⟨w.heap.size + 1, 0, none⟩ (.int .i64 0)).setCell ⟨w.heap.size + 1, 1, none⟩ (.int .i64 0)).setCell ⟨w.heap.size + 1, 2, none⟩ (.slice none 0 0)).setCell ⟨w.heap.size + 1, 3, none⟩ (.int .i64 0)) (w.heap.size + 1) 29 #[.int .i64 0, .int .i64 0, .slice none 0 0, .int .i64 0] := ((((K_x2.out.set_ 0 (.int .i64 0)).set_ 1 (.int .i64 0)).set_ 2 (.slice none 0 0)).set_ 3 (.int .i64 0))
            have ks := ((((K_s2.out.far (p := ⟨w.heap.size + 1, 0, none⟩) (by show w.heap.size ≠ w.heap.size + 1; omega) (.int .i64 0)).far (p := ⟨w.heap.size + 1, 1, none⟩) (by show w.heap.size ≠ w.heap.size + 1; omega) (.int .i64 0)).far (p := ⟨w.heap.size + 1, 2, none⟩) (by show w.heap.size ≠ w.heap.size + 1; omega) (.slice none 0 0)).far (p := ⟨w.heap.size + 1, 3, none⟩) (by show w.heap.size ≠ w.heap.size + 1; omega) (.int .i64 0))
            have hb4 := ((((HB2.out.setCell (p := ⟨w.heap.size + 1, 0, none⟩) (by show w.heap.size ≤ w.heap.size + 1; omega) (.int .i64 0)).setCell (p := ⟨w.heap.size + 1, 1, none⟩) (by show w.heap.size ≤ w.heap.size + 1; omega) (.int .i64 0)).setCell (p := ⟨w.heap.size + 1, 2, none⟩) (by show w.heap.size ≤ w.heap.size + 1; omega) (.slice none 0 0)).setCell (p := ⟨w.heap.size + 1, 3, none⟩) (by show w.heap.size ≤ w.heap.size + 1; omega) (.int .i64 0))
            generalize ((((wb.setCell ⟨w.heap.size + 1, 0, none⟩ (.int .i64 0)).setCell ⟨w.heap.size + 1, 1, none⟩ (.int .i64 0)).setCell ⟨w.heap.size + 1, 2, none⟩ (.slice none 0 0)).setCell ⟨w.heap.size + 1, 3, none⟩ (.int .i64 0)) = w4 at kx ks hb4 ⊢
            replace K_x2 := hide kx
            replace K_s2 := hide ks
            replace HB2 := hide hb4
            clear kx ks hb4
            have x20 := (Blk.cell K_x2.out 0).trans (rfl : _ = some (Value.int .i64 0))
            have x2f0 := Blk.frozen K_x2.out 0
            have x21 := (Blk.cell K_x2.out 1).trans (rfl : _ = some (Value.int .i64 0))
            have x2f1 := Blk.frozen K_x2.out 1
            have x22 := (Blk.cell K_x2.out 2).trans (rfl : _ = some (Value.slice none 0 0))
            have x2f2 := Blk.frozen K_x2.out 2
            have x23 := (Blk.cell K_x2.out 3).trans (rfl : _ = some (Value.int .i64 0))
            have x2f3 := Blk.frozen K_x2.out 3
            go_wp2_with fail
            have kf : Blk _ (w.heap.size + 1) 29 #[.int .i64 0, .int .i64 0, .slice none 0 0, .int .i64 0] := ((((K_x2.out.set_ 0 (.int .i64 0)).set_ 1 (.int .i64 0)).set_ 2 (.slice none 0 0)).set_ 3 (.int .i64 0))
            have rc0 := (Blk.cell kf 0).trans (rfl : _ = some (Value.int .i64 0))
            have rc1 := (Blk.cell kf 1).trans (rfl : _ = some (Value.int .i64 0))
            have rc2 := (Blk.cell kf 2).trans (rfl : _ = some (Value.slice none 0 0))
            have rc3 := (Blk.cell kf 3).trans (rfl : _ = some (Value.int .i64 0))
            exact bodyPost_ret (v := .tuple #[.agg #[.int .i64 0, .int .i64 0, .slice none 0 0, .int .i64 0], .slice none 0 0, .int .i64 0, .int .i64 (j : Int), .int .i64 2]) (by simp [results, Tryz.results60, go_sem, rc0, rc1, rc2, rc3]) rfl (RunP.err HG.out rfl ((((HB2.out.setCell (p := ⟨(w.heap.size + 1), 0, none⟩) (by show w.heap.size ≤ w.heap.size + 1; omega) (.int .i64 0)).setCell (p := ⟨(w.heap.size + 1), 1, none⟩) (by show w.heap.size ≤ w.heap.size + 1; omega) (.int .i64 0)).setCell (p := ⟨(w.heap.size + 1), 2, none⟩) (by show w.heap.size ≤ w.heap.size + 1; omega) (.slice none 0 0)).setCell (p := ⟨(w.heap.size + 1), 3, none⟩) (by show w.heap.size ≤ w.heap.size + 1; omega) (.int .i64 0)))
          · have hs1 := (ruN_at HSS.out hm3).1
            have hs2 := (ruN_at HSS.out hm3).2
            have hle := ruN_le HSS.out x.st.mode
            obtain ⟨ok, hok⟩ : ∃ b, decide (fd ≤ ((ruN S x.st.mode).2 : Int)) = b := ⟨_, rfl⟩
            have hst : stepC (ruN S) x fd = .inl ⟨goesS x.st ok, x.res ++ [ok], x.eff + (ruN S x.st.mode).1⟩ := by unfold stepC; rw [if_neg h1, if_neg h3, if_neg hrg, hok]
            have HST := hide hst
            have hgr := (goesS_ok HRX.out ok).2
            have HGR := hide hgr
            have HNC := hide (fun (W : World) (h : SlL W (.slice A N c) (bcl x.st.last)) => HNO.out W x.st fd (.slice A N c) h HRX.out h3 (by omega) (by rw [hs1]; omega))
            rw [hs2, hok] at HNC
            obtain ⟨sz, hszz⟩ : ∃ z, (ruN S x.st.mode).1 = z := ⟨_, rfl⟩
            rw [hszz] at hs1 HST hle
            have HSX := hide hs1
            have hsb : sz ≤ 1048576 := hle.1
            have hef := eff_small HEF.out (by omega)
            obtain ⟨y, hy⟩ : ∃ y, goesS x.st ok = y := ⟨_, rfl⟩
            rw [hy] at HNC HST HGR
            have hwe : IntKind.i64.wrap ((x.eff : Int) + (sz : Int)) = ((x.eff + sz : Nat) : Int) := (IntWalk.i64_in _ (by omega)).trans (by omega)
            have HSB := hide hsb
            clear hsb hef
            have hml : x.st.mode < 3 := hm3
            have hf1 : (fd == -1) = false := by simpa using h1
            have hat : wr.cell? ⟨w.heap.size, x.st.mode * 2, none⟩ = some (.int .i64 (sz : Int)) := by
              have h := hrules wr K_s2.out x.st.mode hm3
              rw [HSX.out] at h
              exact h
            have HAT := hide hat
            clear hat hs1 hs2 hle hok hst hgr hszz hy h1 h3 hrg HNO HNB HRB HRO
            obtain ⟨mo, hmo⟩ : ∃ m, x.st.mode = m := ⟨_, rfl⟩
            rw [hmo] at hml HAT
            have hm0 : (0 : Int) ≤ (mo : Int) := by omega
            have hmi : (mo : Int) < 3 := by omega
            have HMO := hide hmo
            have KX3 := K_x2.out
            rw [hmo] at KX3 HNC
            replace K_x2 := hide KX3
            clear KX3 hmo hm3
            have hef2 : x.eff + sz ≤ (j + 1) * 1048576 := eff_more HEF.out HSB.out
            have HEF2 := hide hef2
            clear hef2
            have hrl2 : (x.res ++ [ok]).length = x.res.length + 1 := by simp
            have HRL2 := hide hrl2
            clear hrl2
            have x20 := (Blk.cell K_x2.out 0).trans (rfl : _ = some (Value.int .i64 (mo : Int)))
            have x21 := (Blk.cell K_x2.out 1).trans (rfl : _ = some (Value.int .i64 (x.st.run : Int)))
            have x22 := (Blk.cell K_x2.out 2).trans (rfl : _ = some (Value.slice A N c))
            have x23 := (Blk.cell K_x2.out 3).trans (rfl : _ = some (Value.int .i64 (x.st.rej : Int)))
            have s20 := (Blk.cell K_s2.out 0).trans (rfl : _ = some (Value.int .i64 (S 0).1))
            have s21 := (Blk.cell K_s2.out 1).trans (rfl : _ = some (Value.int .i64 (S 0).2))
            have s22 := (Blk.cell K_s2.out 2).trans (rfl : _ = some (Value.int .i64 (S 1).1))
            have s23 := (Blk.cell K_s2.out 3).trans (rfl : _ = some (Value.int .i64 (S 1).2))
            have s24 := (Blk.cell K_s2.out 4).trans (rfl : _ = some (Value.int .i64 (S 2).1))
            have s25 := (Blk.cell K_s2.out 5).trans (rfl : _ = some (Value.int .i64 (S 2).2))
            have hown0 := HOW.out
            have hrlt := hown0.lt
            go_wp2_with fail
            refine (HNC.out _ HSL.out).mono ?_
            rintro e wb ⟨u, rfl, hst, hb⟩
            obtain ⟨sl, rfl, hsl, hfr⟩ := hst
            obtain ⟨A9, N9, c9, rfl⟩ := hsl.shape3
            have HSL9 := hide hsl
            have HAP9 := hide (show ApartV (.slice A9 N9 c9) u5 from fun g o n c h e => by
              have h1 := hfr g o n c h
              have h2 := (hrlt g e).2
              omega)
            have HOB := hide (owns_below hown0 hb)
            replace HAT := hide ((bcell hb _ _ (block_lt_of_cell HAT.out)).trans HAT.out)
            clear hown0 hrlt hsl hfr
            clear x20 x21 x22 x23 s20 s21 s22 s23 s24 s25
            replace K_x2 := hide (Blk.below K_x2.out hb (Blk.lt K_x2.out))
            replace K_s2 := hide (Blk.below K_s2.out hb (Blk.lt K_s2.out))
            replace HB2 := hide (HB2.out.trans (hb.mono HB2.out.size))
            clear hb
            have x20 := (Blk.cell K_x2.out 0).trans (rfl : _ = some (Value.int .i64 (mo : Int)))
            have x2f0 := Blk.frozen K_x2.out 0
            have x21 := (Blk.cell K_x2.out 1).trans (rfl : _ = some (Value.int .i64 (x.st.run : Int)))
            have x2f1 := Blk.frozen K_x2.out 1
            have x22 := (Blk.cell K_x2.out 2).trans (rfl : _ = some (Value.slice A N c))
            have x2f2 := Blk.frozen K_x2.out 2
            have x23 := (Blk.cell K_x2.out 3).trans (rfl : _ = some (Value.int .i64 (x.st.rej : Int)))
            have x2f3 := Blk.frozen K_x2.out 3
            go_upto_region 16 with (fail)
            clear x20 x2f0 x21 x2f1 x22 x2f2 x23 x2f3
            have kx : Blk ((((wb.setCell ⟨w.heap.size + 1, 0, none⟩ (.int .i64 (y.mode : Int))).setCell ⟨w.heap.size + 1, 1, none⟩ (.int .i64 (y.run : Int))).setCell ⟨w.heap.size + 1, 2, none⟩ (.slice A9 N9 c9)).setCell ⟨w.heap.size + 1, 3, none⟩ (.int .i64 (y.rej : Int))) (w.heap.size + 1) 29 #[.int .i64 (y.mode : Int), .int .i64 (y.run : Int), .slice A9 N9 c9, .int .i64 (y.rej : Int)] := ((((K_x2.out.set_ 0 (.int .i64 (y.mode : Int))).set_ 1 (.int .i64 (y.run : Int))).set_ 2 (.slice A9 N9 c9)).set_ 3 (.int .i64 (y.rej : Int)))
            have ks := ((((K_s2.out.far (p := ⟨w.heap.size + 1, 0, none⟩) (by show w.heap.size ≠ w.heap.size + 1; omega) (.int .i64 (y.mode : Int))).far (p := ⟨w.heap.size + 1, 1, none⟩) (by show w.heap.size ≠ w.heap.size + 1; omega) (.int .i64 (y.run : Int))).far (p := ⟨w.heap.size + 1, 2, none⟩) (by show w.heap.size ≠ w.heap.size + 1; omega) (.slice A9 N9 c9)).far (p := ⟨w.heap.size + 1, 3, none⟩) (by show w.heap.size ≠ w.heap.size + 1; omega) (.int .i64 (y.rej : Int)))
            have hb4 := ((((HB2.out.setCell (p := ⟨w.heap.size + 1, 0, none⟩) (by show w.heap.size ≤ w.heap.size + 1; omega) (.int .i64 (y.mode : Int))).setCell (p := ⟨w.heap.size + 1, 1, none⟩) (by show w.heap.size ≤ w.heap.size + 1; omega) (.int .i64 (y.run : Int))).setCell (p := ⟨w.heap.size + 1, 2, none⟩) (by show w.heap.size ≤ w.heap.size + 1; omega) (.slice A9 N9 c9)).setCell (p := ⟨w.heap.size + 1, 3, none⟩) (by show w.heap.size ≤ w.heap.size + 1; omega) (.int .i64 (y.rej : Int)))
            have ow4 := (ownsRow_setCell_below (ownsRow_setCell_below (ownsRow_setCell_below (ownsRow_setCell_below HOB.out (a := ⟨w.heap.size + 1, 0, none⟩) (by show w.heap.size + 1 < w.heap.size + 2; omega) (.int .i64 (y.mode : Int))) (a := ⟨w.heap.size + 1, 1, none⟩) (by show w.heap.size + 1 < w.heap.size + 2; omega) (.int .i64 (y.run : Int))) (a := ⟨w.heap.size + 1, 2, none⟩) (by show w.heap.size + 1 < w.heap.size + 2; omega) (.slice A9 N9 c9)) (a := ⟨w.heap.size + 1, 3, none⟩) (by show w.heap.size + 1 < w.heap.size + 2; omega) (.int .i64 (y.rej : Int)))
            have sl4 := HSL9.out.own K_x2.out (nobool4 _ _ _ _ _ _) (only_setCell (only_setCell (only_setCell (only_setCell (only_refl _ (some (w.heap.size + 1))) (p := ⟨w.heap.size + 1, 0, none⟩) (Or.inl rfl) (.int .i64 (y.mode : Int))) (p := ⟨w.heap.size + 1, 1, none⟩) (Or.inl rfl) (.int .i64 (y.run : Int))) (p := ⟨w.heap.size + 1, 2, none⟩) (Or.inl rfl) (.slice A9 N9 c9)) (p := ⟨w.heap.size + 1, 3, none⟩) (Or.inl rfl) (.int .i64 (y.rej : Int)))
            have at4 : ((((wb.setCell ⟨w.heap.size + 1, 0, none⟩ (.int .i64 (y.mode : Int))).setCell ⟨w.heap.size + 1, 1, none⟩ (.int .i64 (y.run : Int))).setCell ⟨w.heap.size + 1, 2, none⟩ (.slice A9 N9 c9)).setCell ⟨w.heap.size + 1, 3, none⟩ (.int .i64 (y.rej : Int))).cell? ⟨w.heap.size, mo * 2, none⟩ = some (.int .i64 (sz : Int)) := by
              have h := hrules _ ks x.st.mode (by rw [HMO.out]; exact hml)
              rw [HSX.out, HMO.out] at h
              exact h
            generalize ((((wb.setCell ⟨w.heap.size + 1, 0, none⟩ (.int .i64 (y.mode : Int))).setCell ⟨w.heap.size + 1, 1, none⟩ (.int .i64 (y.run : Int))).setCell ⟨w.heap.size + 1, 2, none⟩ (.slice A9 N9 c9)).setCell ⟨w.heap.size + 1, 3, none⟩ (.int .i64 (y.rej : Int))) = w4 at kx ks hb4 ow4 sl4 at4 ⊢
            replace K_x2 := hide kx
            replace K_s2 := hide ks
            replace HB2 := hide hb4
            have HO4 := hide ow4
            have HSL4 := hide sl4
            clear kx ks hb4 sl4 HOB HSL9 HAT HSL HOW HNC
            have hw4s : w.heap.size + 2 ≤ w4.heap.size := by have := Blk.lt K_x2.out; omega
            go_upto_region 19 with (fail)
            clear at4
            have ow5 := ow4.alloc (.cells #[.bool ok] 4)
            have hcu : (w4.alloc (.cells #[.bool ok] 4)).cell? ⟨w4.heap.size, 0, none⟩ = some (.bool ok) := (Blk.cell (Blk.new w4 4 #[.bool ok]) 0).trans rfl
            go_wp2_with (at_builtin; refine wpList_append_one _ rfl _ _ 27 rfl (w.heap.size + 2) 4 i0 (.bool false) 1 Tryz.underlying27 hi hz0 hz1 hz2 rfl _ _ _ rfl ow5 _ rfl _ _ (.bool ok) rfl hcu rfl ?rn1 ?rn2 ?rn3 ?_)
            try (case rn1 => (simp [maxLen]; omega))
            try (case rn2 => (simp; omega))
            try (case rn3 => (simp; omega))
            intro v6 w6 ho6 hg6 hwh
            rw [bcl_snoc] at ho6
            obtain ⟨A6, n6, c6, rfl⟩ := own_slice ho6
            have hb6 : Below w.heap.size w w6 := (HB2.out.alloc (by omega) _).grown hg6 (by simp; omega) (fun k e => by have := (ow4.lt k e).1; omega)
            have kx6 := (K_x2.out.alloc (.cells #[.bool ok] 4)).grown hg6 (fun e => by have := (ow4.lt _ e.symm).1; omega)
            have ks6 := (K_s2.out.alloc (.cells #[.bool ok] 4)).grown hg6 (fun e => by have := (ow4.lt _ e.symm).1; omega)
            have sl6 := (HSL4.out.below ((Below.refl w4.heap.size w4).alloc (Nat.le_refl _) (.cells #[.bool ok] 4))).grownA hg6 (fun g o n c h => HAP9.out g o n c h)
            have ap6 : ApartV (.slice A9 N9 c9) (.slice A6 n6 c6) := fun g o n c h e => by
              rcases hwh with h2 | h2
              · rw [h2] at e; exact HAP9.out g o n c h e
              · rw [h2] at e
                have h3 := Option.some.inj e
                have h4 := HSL4.out
                rw [h] at h4
                have h5 := h4.lt
                try simp only [World.size_alloc] at h3
                omega
            have hs6 : w.heap.size + 2 ≤ w6.heap.size := by have := hg6.size; simp at this; omega
            have HB6 := hide hb6
            have KX6 := hide kx6
            have KS6 := hide ks6
            have SL6 := hide sl6
            have AP6 := hide ap6
            have HO6 := hide ho6
            have HS6 := hide hs6
            clear hb6 kx6 ks6 sl6 ap6 ho6 hs6 hg6 hwh hcu ow5 ow4
            go_wp2_with fail
            go_roundg (gk - 1)
            case measure => have := HQ.out; omega
            case rel => exact ⟨j + 1, ⟨y, x.res ++ [ok], x.eff + sz⟩, A9, N9, c9, by go_num, by have := HQ.out; omega, rfl, HGO2.out.trans (by rw [HST.out]), HGR.out, by rw [HRL2.out]; omega, HEF2.out, by rw [HRL2.out]; exact HO6.out, KX6.out, SL6.out, AP6.out, KS6.out, HB6.out, HS6.out⟩
    · clear hrules
      have hji : ¬ (j : Int) < (n : Int) := by omega
      have hjn : j = n := by omega
      have HG := hide (HGO.out.trans (show goC (ruN S) (L.drop j) j x = .inl x by rw [List.drop_eq_nil_of_le (by rw [HN.out]; omega)]; rfl))
      clear HGO HLC
      obtain ⟨A6, n6, c6, rfl⟩ := own_slice HOW.out
      have x20 := (Blk.cell K_x2.out 0).trans (rfl : _ = some (Value.int .i64 (x.st.mode : Int)))
      have x2f0 := Blk.frozen K_x2.out 0
      have x21 := (Blk.cell K_x2.out 1).trans (rfl : _ = some (Value.int .i64 (x.st.run : Int)))
      have x2f1 := Blk.frozen K_x2.out 1
      have x22 := (Blk.cell K_x2.out 2).trans (rfl : _ = some (Value.slice A N c))
      have x2f2 := Blk.frozen K_x2.out 2
      have x23 := (Blk.cell K_x2.out 3).trans (rfl : _ = some (Value.int .i64 (x.st.rej : Int)))
      have x2f3 := Blk.frozen K_x2.out 3
      go_wp2_with fail
      have rc0 := (Blk.cell ((((K_x2.out.set_ 0 (.int .i64 (x.st.mode : Int))).set_ 1 (.int .i64 (x.st.run : Int))).set_ 2 (.slice A N c)).set_ 3 (.int .i64 (x.st.rej : Int))) 0).trans (rfl : _ = some (Value.int .i64 (x.st.mode : Int)))
      have rc1 := (Blk.cell ((((K_x2.out.set_ 0 (.int .i64 (x.st.mode : Int))).set_ 1 (.int .i64 (x.st.run : Int))).set_ 2 (.slice A N c)).set_ 3 (.int .i64 (x.st.rej : Int))) 1).trans (rfl : _ = some (Value.int .i64 (x.st.run : Int)))
      have rc2 := (Blk.cell ((((K_x2.out.set_ 0 (.int .i64 (x.st.mode : Int))).set_ 1 (.int .i64 (x.st.run : Int))).set_ 2 (.slice A N c)).set_ 3 (.int .i64 (x.st.rej : Int))) 2).trans (rfl : _ = some (Value.slice A N c))
      have rc3 := (Blk.cell ((((K_x2.out.set_ 0 (.int .i64 (x.st.mode : Int))).set_ 1 (.int .i64 (x.st.run : Int))).set_ 2 (.slice A N c)).set_ 3 (.int .i64 (x.st.rej : Int))) 3).trans (rfl : _ = some (Value.int .i64 (x.st.rej : Int)))
      exact bodyPost_ret (v := .tuple #[.agg #[.int .i64 (x.st.mode : Int), .int .i64 (x.st.run : Int), .slice A N c, .int .i64 (x.st.rej : Int)], .slice A6 n6 c6, .int .i64 (x.eff : Int), .int .i64 0, .int .i64 0]) (by simp [results, Tryz.results60, go_sem, rc0, rc1, rc2, rc3]) rfl (RunP.good HG.out rfl ⟨_, rfl, HSL.out.own K_x2.out (nobool4 _ _ _ _ _ _) (only_setCell (only_setCell (only_setCell (only_setCell (only_refl _ (some ((w.heap.size + 1)))) (p := ⟨(w.heap.size + 1), 0, none⟩) (Or.inl rfl) _) (p := ⟨(w.heap.size + 1), 1, none⟩) (Or.inl rfl) _) (p := ⟨(w.heap.size + 1), 2, none⟩) (Or.inl rfl) _) (p := ⟨(w.heap.size + 1), 3, none⟩) (Or.inl rfl) _)⟩ (SlL.of_row (ownsRow_setCell_below (ownsRow_setCell_below (ownsRow_setCell_below (ownsRow_setCell_below HOW.out (a := ⟨(w.heap.size + 1), 0, none⟩) (by show w.heap.size + 1 < w.heap.size + 2; omega) (.int .i64 (x.st.mode : Int))) (a := ⟨(w.heap.size + 1), 1, none⟩) (by show w.heap.size + 1 < w.heap.size + 2; omega) (.int .i64 (x.st.run : Int))) (a := ⟨(w.heap.size + 1), 2, none⟩) (by show w.heap.size + 1 < w.heap.size + 2; omega) (.slice A N c)) (a := ⟨(w.heap.size + 1), 3, none⟩) (by show w.heap.size + 1 < w.heap.size + 2; omega) (.int .i64 (x.st.rej : Int))) (by rw [bcl_len])) ((((HB2.out.setCell (p := ⟨(w.heap.size + 1), 0, none⟩) (by show w.heap.size ≤ w.heap.size + 1; omega) (.int .i64 (x.st.mode : Int))).setCell (p := ⟨(w.heap.size + 1), 1, none⟩) (by show w.heap.size ≤ w.heap.size + 1; omega) (.int .i64 (x.st.run : Int))).setCell (p := ⟨(w.heap.size + 1), 2, none⟩) (by show w.heap.size ≤ w.heap.size + 1; omega) (.slice A N c)).setCell (p := ⟨(w.heap.size + 1), 3, none⟩) (by show w.heap.size ≤ w.heap.size + 1; omega) (.int .i64 (x.st.rej : Int))))
end Go.Proofs.YthmmgjieppknkaaGreatDoor
