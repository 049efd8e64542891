/- Contracts and plain laws that the statements of this seat share (part Ekae). -/
import Derived.Test.YthmmgjieppknkaaGreatDoorEkaa
import Derived.Test.YthmmgjieppknkaaGreatDoorEkab
import Derived.Test.YthmmgjieppknkaaGreatDoorEkac
import Derived.Test.YthmmgjieppknkaaGreatDoorEkad
import Derived.Test.YthmmgjieppknkaaGreatDoorKaa
import Derived.Test.YthmmgjieppknkaaGreatDoorKab
import Derived.Test.YthmmgjieppknkaaGreatDoorKac
import Derived.Test.YthmmgjieppknkaaGreatDoorKad
import Derived.Test.YthmmgjieppknkaaGreatDoorKag
import Derived.Test.YthmmgjieppknkaaGreatDoorKai
import Derived.Test.YthmmgjieppknkaaGreatDoorKak
import Derived.Test.YthmmgjieppknkaaGreatDoorKal
import Derived.Test.YthmmgjieppknkaaGreatDoorKam
import Derived.Test.YthmmgjieppknkaaGreatDoorKas
import Derived.Test.YthmmgjieppknkaaGreatDoorKat
import Derived.Test.YthmmgjieppknkaaGreatDoorKau
import Derived.Deep.AppendLies
import Derived.Lib.Builder
import Derived.Lib.AppendStr
import Derived.Laws.Externs
import Derived.WalkSmall
import Derived.Lib.AtoiErrMem
import Derived.Shelf.Strings.SlTrimAscii
import Derived.Shelf.Strings.Builder1
import Derived.Shelf.Strings.Trim
import Derived.Shelf.Small.Utf8
import Derived.Shelf.Small.Strs
import Derived.Shelf.Strings.BuilderF
import Derived.Shelf.Strings.BuilderK
import Derived.Shelf.Strconv.Atoi
import Derived.Shelf.Strconv.Itoa0
import Derived.Shelf.Strconv.Itoa1
import Derived.Shelf.LaysM
import Derived.Shelf.Strconv.Itoa2
import Derived.Shelf.Strconv.Itoa3
import Derived.Shelf.Strings.Search1
import Derived.Shelf.Strings.Search2
import Derived.Shelf.Strings.Cut
import Derived.Shelf.Strings.Shaped
import Derived.Shelf.Strings.Prefix
import Derived.Shelf.Strings.Runes
import Derived.Shelf.Strings.AsciiSet
import Derived.Shelf.Bits.Mul64
import Derived.Shelf.Unicode.DecodeSlow
import Derived.Test.YthmmgjieppknkaaGreatDoorProg
import Derived.Test.YthmmgjieppknkaaGreatDoorChecked
import Derived.WalkKit
import Derived.WalkSpells
import Derived.WalkLawsBesides
import Derived.Lib.Hide
import Derived.IntWalk
import Derived.BigQuiet
import Derived.Deep.QuietTactic
import Derived.Deep.LoopGhost
import Derived.Deep.DeepCutAuto
import Derived.Deep.DeepFit
import Derived.Deep.Light
import Derived.Outline
import Derived.Laws.Rows
import Derived.Laws.NewBlocks
import Derived.Laws.CopyOwn
import Derived.Laws.Tables
import Derived.Lib.ItoaNum
import Derived.Lib.ItoaLen
import Derived.Lib.Atoi
import Derived.Lib.AtoiAll
import Derived.Lib.Strings
import Derived.Lib.SlTrimSet
import Derived.DeepKeys4
import Derived.Maps.RangeWalk
import Derived.Deep.RegionWith
import Derived.Deep.RegionLaw
import Derived.RegionTactic
import Derived.ProofKit
namespace Go.Proofs.YthmmgjieppknkaaGreatDoor
open Go.RowKit MLab
theorem bel_set4W {B : Nat} {w x : World} (h : Below B w x) (b : Nat) (hB : B ≤ b) (a c d e : Value) : Below B w ((((x.setCell ⟨b, 0, none⟩ a).setCell ⟨b, 1, none⟩ c).setCell ⟨b, 2, none⟩ d).setCell ⟨b, 3, none⟩ e) := (((h.setCell (p := ⟨b, 0, none⟩) hB a).setCell (p := ⟨b, 1, none⟩) hB c).setCell (p := ⟨b, 2, none⟩) hB d).setCell (p := ⟨b, 3, none⟩) hB e
theorem bel_alW2 {w x : World} (h : Below w.heap.size w x) (o : Obj) : Below w.heap.size w (x.alloc o) := h.alloc h.size o
end Go.Proofs.YthmmgjieppknkaaGreatDoor

namespace Go.Proofs.YthmmgjieppknkaaGreatDoor
open Go.RowKit MLab
set_option maxRecDepth 100000 in
set_option maxHeartbeats 4000000 in
theorem swrun_err (w : World) (S : Nat → Int × Int) (v : Value) (L : List Int) (i : Nat) (z : Int) (hv : SlL w v (zcl L)) (hg : runG S L = .inr (i, z)) (hz : z ≠ 0) :
    Calls Tryz.prog 27 #[schV S, v] w fun e w' => e = .returned (.tuple #[.agg #[.int .i64 0, .int .i64 0, .slice none 0 0, .int .i64 0], .slice none 0 0, .int .i64 (i : Int), .int .i64 z]) ∧ Below w.heap.size w w' := by
  have HG := hide (fun (W : World) (h : SlL W v (zcl L)) => run_all W S v L h)
  rw [hg] at HG
  unfold RunP at HG
  have HV := hide hv
  unfold schV at HG ⊢
  clear hg hv
  have hzi : (z == 0) = false := by simpa using hz
  have HZ := hide hz
  clear hz
  have HB := allocs_below w [.cells #[.int .i64 (S 0).1, .int .i64 (S 0).2, .int .i64 (S 1).1, .int .i64 (S 1).2, .int .i64 (S 2).1, .int .i64 (S 2).2] 26, .cells #[.int .i64 0, .int .i64 0, .slice none 0 0, .int .i64 0] 29]
  have K_s : Blk (allocs w [.cells #[.int .i64 (S 0).1, .int .i64 (S 0).2, .int .i64 (S 1).1, .int .i64 (S 1).2, .int .i64 (S 2).1, .int .i64 (S 2).2] 26, .cells #[.int .i64 0, .int .i64 0, .slice none 0 0, .int .i64 0] 29]) (w.heap.size + 0) 26 #[.int .i64 (S 0).1, .int .i64 (S 0).2, .int .i64 (S 1).1, .int .i64 (S 1).2, .int .i64 (S 2).1, .int .i64 (S 2).2] := allocs_at w [.cells #[.int .i64 (S 0).1, .int .i64 (S 0).2, .int .i64 (S 1).1, .int .i64 (S 1).2, .int .i64 (S 2).1, .int .i64 (S 2).2] 26, .cells #[.int .i64 0, .int .i64 0, .slice none 0 0, .int .i64 0] 29] 0 rfl
  have K_r : Blk (allocs w [.cells #[.int .i64 (S 0).1, .int .i64 (S 0).2, .int .i64 (S 1).1, .int .i64 (S 1).2, .int .i64 (S 2).1, .int .i64 (S 2).2] 26, .cells #[.int .i64 0, .int .i64 0, .slice none 0 0, .int .i64 0] 29]) (w.heap.size + 1) 29 #[.int .i64 0, .int .i64 0, .slice none 0 0, .int .i64 0] := allocs_at w [.cells #[.int .i64 (S 0).1, .int .i64 (S 0).2, .int .i64 (S 1).1, .int .i64 (S 1).2, .int .i64 (S 2).1, .int .i64 (S 2).2] 26, .cells #[.int .i64 0, .int .i64 0, .slice none 0 0, .int .i64 0] 29] 1 rfl
  unfold allocs at HB K_s K_r
  simp only [List.foldl_cons, List.foldl_nil] at HB K_s K_r
  rw [Nat.add_zero] at K_s
  go_enter Tryz.func27, Tryz.ntmps27
  go_upto_region 1 with (fail)
  generalize ((w.alloc (.cells #[.int .i64 (S 0).1, .int .i64 (S 0).2, .int .i64 (S 1).1, .int .i64 (S 1).2, .int .i64 (S 2).1, .int .i64 (S 2).2] 26)).alloc (.cells #[.int .i64 0, .int .i64 0, .slice none 0 0, .int .i64 0] 29)) = w0 at *
  replace K_s := hide K_s
  replace K_r := hide K_r
  replace HB := hide HB
  have s0 := (Blk.cell K_s.out 0).trans (rfl : _ = some (Value.int .i64 (S 0).1))
  have s1 := (Blk.cell K_s.out 1).trans (rfl : _ = some (Value.int .i64 (S 0).2))
  have s2 := (Blk.cell K_s.out 2).trans (rfl : _ = some (Value.int .i64 (S 1).1))
  have s3 := (Blk.cell K_s.out 3).trans (rfl : _ = some (Value.int .i64 (S 1).2))
  have s4 := (Blk.cell K_s.out 4).trans (rfl : _ = some (Value.int .i64 (S 2).1))
  have s5 := (Blk.cell K_s.out 5).trans (rfl : _ = some (Value.int .i64 (S 2).2))
  go_wp2_with fail
  refine (HG.out _ (HV.out.below HB.out)).mono ?_
  rintro e wb ⟨rfl, hb⟩
  clear s0 s1 s2 s3 s4 s5
  replace K_s := hide (Blk.below K_s.out hb (Blk.lt K_s.out))
  replace K_r := hide (Blk.below K_r.out hb (Blk.lt K_r.out))
  replace HB := hide (HB.out.trans (hb.mono HB.out.size))
  clear hb
  go_upto_region 2 with (fail)
  have hbs := HB.out.size
  have kx := Blk.new wb 29 #[.int .i64 0, .int .i64 0, .slice none 0 0, .int .i64 0]
  have hb4 := HB.out.alloc hbs (.cells #[.int .i64 0, .int .i64 0, .slice none 0 0, .int .i64 0] 29)
  have kr := K_r.out.alloc (.cells #[.int .i64 0, .int .i64 0, .slice none 0 0, .int .i64 0] 29)
  generalize wb.alloc (.cells #[.int .i64 0, .int .i64 0, .slice none 0 0, .int .i64 0] 29) = w4 at kx hb4 kr ⊢
  have K_x := hide kx
  replace HB := hide hb4
  replace K_r := hide kr
  clear kx hb4 kr
  have x0 := (Blk.cell K_x.out 0).trans (rfl : _ = some (Value.int .i64 0))
  have x1 := (Blk.cell K_x.out 1).trans (rfl : _ = some (Value.int .i64 0))
  have x2 := (Blk.cell K_x.out 2).trans (rfl : _ = some (Value.slice none 0 0))
  have x3 := (Blk.cell K_x.out 3).trans (rfl : _ = some (Value.int .i64 0))
  have r0 := (Blk.cell K_r.out 0).trans (rfl : _ = some (Value.int .i64 0))
  have rf0 := Blk.frozen K_r.out 0
  have r1 := (Blk.cell K_r.out 1).trans (rfl : _ = some (Value.int .i64 0))
  have rf1 := Blk.frozen K_r.out 1
  have r2 := (Blk.cell K_r.out 2).trans (rfl : _ = some (Value.slice none 0 0))
  have rf2 := Blk.frozen K_r.out 2
  have r3 := (Blk.cell K_r.out 3).trans (rfl : _ = some (Value.int .i64 0))
  have rf3 := Blk.frozen K_r.out 3
  go_wp2_with fail
  have rc0 := (Blk.cell ((((K_r.out.set_ 0 (.int .i64 0)).set_ 1 (.int .i64 0)).set_ 2 (.slice none 0 0)).set_ 3 (.int .i64 0)) 0).trans (rfl : _ = some (Value.int .i64 0))
  have rc1 := (Blk.cell ((((K_r.out.set_ 0 (.int .i64 0)).set_ 1 (.int .i64 0)).set_ 2 (.slice none 0 0)).set_ 3 (.int .i64 0)) 1).trans (rfl : _ = some (Value.int .i64 0))
  have rc2 := (Blk.cell ((((K_r.out.set_ 0 (.int .i64 0)).set_ 1 (.int .i64 0)).set_ 2 (.slice none 0 0)).set_ 3 (.int .i64 0)) 2).trans (rfl : _ = some (Value.slice none 0 0))
  have rc3 := (Blk.cell ((((K_r.out.set_ 0 (.int .i64 0)).set_ 1 (.int .i64 0)).set_ 2 (.slice none 0 0)).set_ 3 (.int .i64 0)) 3).trans (rfl : _ = some (Value.int .i64 0))
  exact bodyPost_ret (v := .tuple #[.agg #[.int .i64 0, .int .i64 0, .slice none 0 0, .int .i64 0], .slice none 0 0, .int .i64 (i : Int), .int .i64 z]) (by simp [results, Tryz.results27, go_sem, rc0, rc1, rc2, rc3]) rfl ⟨rfl, ((((HB.out.setCell (p := ⟨(w.heap.size + 1), 0, none⟩) (by show w.heap.size ≤ (w.heap.size + 1); omega) (.int .i64 0)).setCell (p := ⟨(w.heap.size + 1), 1, none⟩) (by show w.heap.size ≤ (w.heap.size + 1); omega) (.int .i64 0)).setCell (p := ⟨(w.heap.size + 1), 2, none⟩) (by show w.heap.size ≤ (w.heap.size + 1); omega) (.slice none 0 0)).setCell (p := ⟨(w.heap.size + 1), 3, none⟩) (by show w.heap.size ≤ (w.heap.size + 1); omega) (.int .i64 0))⟩
end Go.Proofs.YthmmgjieppknkaaGreatDoor

namespace Go.Proofs.YthmmgjieppknkaaGreatDoor
open Go.RowKit MLab
set_option maxRecDepth 100000 in
set_option maxHeartbeats 2000000 in
theorem sameD_any (w : World) (u v : Value) (l l2 : List Bool) (hu : SlL w u (bcl l)) (hv : SlL w v (bcl l2)) (hl : l.length ≤ 1000000) :
    Calls Tryz.prog 55 #[u, v] w fun e w' => e = .returned (.bool (decide (l = l2))) ∧ Below w.heap.size w w' := by
  obtain ⟨A, c, rfl, -, hc⟩ := hu
  obtain ⟨A2, c2, rfl, -, hc2⟩ := hv
  rw [bcl_len] at hc hc2 ⊢
  rw [bcl_len]
  have HC := hide hc
  have HC2 := hide hc2
  have HT := hide (fun (h : l = l2) => decide_eq_true h)
  have HF := hide (fun (h : ¬ l = l2) => decide_eq_false h)
  obtain ⟨R, hR⟩ : ∃ R, decide (l = l2) = R := ⟨_, rfl⟩
  rw [hR] at HT HF ⊢
  clear hc hc2 hR
  by_cases hne : l.length = l2.length
  · obtain ⟨N, hN⟩ : ∃ N, l.length = N := ⟨_, rfl⟩
    have hN2 : l2.length = N := by omega
    rw [hN] at HC hl ⊢
    rw [hN2] at HC2 ⊢
    have HNN := hide hN
    have HNN2 := hide hN2
    clear hN hN2 hne
    have hnn : ((N : Int) == (N : Int)) = true := beq_self_eq_true _
    go_enter Tryz.func55, Tryz.ntmps55
    go_wp2_with fail
    go_loopg [5] N (fun z iv wr => ∃ j : Nat, iv = .int .i64 (j : Int) ∧ z + j = N ∧ Below w.heap.size w wr ∧ ∀ i, i < j → l[i]? = l2[i]?)
    case atStart => exact ⟨0, rfl, rfl, Below.refl _ _, fun i hi => absurd hi (by omega)⟩
    case round =>
      obtain ⟨j, rfl, hq, hb, hr⟩ := hrel
      have HQ := hide hq
      have HB := hide hb
      have HR := hide hr
      have hj : j ≤ N := by omega
      clear hq hb hr
      by_cases hlt : j < N
      · have hji : (j : Int) < (N : Int) := by omega
        have hj0 : (0 : Int) ≤ (j : Int) := by omega
        obtain ⟨g, og, rfl, hcell⟩ := HC.out (by omega)
        obtain ⟨g2, og2, rfl, hcell2⟩ := HC2.out (by omega)
        obtain ⟨b, hx⟩ : ∃ b, l[j]? = some b := ⟨_, List.getElem?_eq_getElem (by rw [HNN.out]; exact hlt)⟩
        obtain ⟨d, hy⟩ : ∃ b, l2[j]? = some b := ⟨_, List.getElem?_eq_getElem (by rw [HNN2.out]; exact hlt)⟩
        have a := hcell j _ (bcl_at hx)
        have a2 := (bcell HB.out _ _ (block_lt_of_cell a)).trans a
        have b1 := hcell2 j _ (bcl_at hy)
        have b2 := (bcell HB.out _ _ (block_lt_of_cell b1)).trans b1
        have HX := hide hx
        have HY := hide hy
        clear a hcell hx HC b1 hcell2 HC2 hy
        by_cases hbd : b = d
        · subst hbd
          have hbb : (b == b) = true := beq_self_eq_true _
          go_upto_region 6 with (fail)
          go_region
          go_wp2_with fail
          go_roundg (gk - 1)
          case measure => have := HQ.out; omega
          case rel => exact ⟨j + 1, by go_num, by have := HQ.out; omega, HB.out.drew, fun i hi => by
            rcases (by omega : i < j ∨ i = j) with h | h
            · exact HR.out i h
            · subst h; rw [HX.out, HY.out]⟩
        · have hbb : (b == d) = false := by simpa using hbd
          have hRf := HF.out (fun e => hbd (by have h1 := HX.out; rw [e, HY.out] at h1; exact (Option.some.inj h1).symm))
          subst hRf
          go_upto_region 6 with (fail)
          go_region
          go_wp2_with fail
          go_ret
          exact ⟨rfl, HB.out.drew⟩
      · have hji : ¬ (j : Int) < (N : Int) := by omega
        have hRt := HT.out (List.ext_getElem? fun i => by
          rcases Nat.lt_or_ge i N with h | h
          · exact HR.out i (by omega)
          · rw [List.getElem?_eq_none (by rw [HNN.out]; exact h), List.getElem?_eq_none (by rw [HNN2.out]; exact h)])
        subst hRt
        go_wp2_with fail
        go_ret
        exact ⟨rfl, HB.out⟩
  · have hRf := HF.out (fun e => hne (by rw [e]))
    subst hRf
    have hnn : ((l.length : Int) == (l2.length : Int)) = false := by simp; omega
    obtain ⟨N, hN⟩ : ∃ N, l.length = N := ⟨_, rfl⟩
    obtain ⟨N2, hN2⟩ : ∃ N, l2.length = N := ⟨_, rfl⟩
    rw [hN, hN2] at hnn
    rw [hN] at hne hl ⊢
    rw [hN2] at hne ⊢
    clear HC HC2 HT HF hN hN2
    go_enter Tryz.func55, Tryz.ntmps55
    go_wp2_with fail
    go_ret
    exact ⟨rfl, Below.refl _ _⟩
set_option maxRecDepth 100000 in
set_option maxHeartbeats 2000000 in
theorem same55D_any (w : World) (A A2 : Option Addr) (N N2 c c2 : Nat) (x y : Sw) (hu : SlL w (.slice A N c) (bcl x.last)) (hv : SlL w (.slice A2 N2 c2) (bcl y.last)) (hl : x.last.length ≤ 1000000) :
    Calls Tryz.prog 24 #[.agg #[.int .i64 (x.mode : Int), .int .i64 (x.run : Int), .slice A N c, .int .i64 (x.rej : Int)], .agg #[.int .i64 (y.mode : Int), .int .i64 (y.run : Int), .slice A2 N2 c2, .int .i64 (y.rej : Int)]] w fun e w' => e = .returned (.bool (decide (x = y))) ∧ Below w.heap.size w w' := by
  have H1 := hide hu
  have H2 := hide hv
  have HS := hide (fun (W : World) (u v : Value) (a : SlL W u (bcl x.last)) (b : SlL W v (bcl y.last)) => sameD_any W u v x.last y.last a b hl)
  clear hu hv
  obtain ⟨m, rn, l, d⟩ := x
  obtain ⟨m2, rn2, l2, d2⟩ := y
  simp only at H1 H2 HS ⊢
  clear hl
  by_cases h0 : m = m2
  · subst h0
    by_cases h1 : rn = rn2
    · subst h1
      by_cases h2 : d = d2
      · subst h2
        have q0 : ((m : Int) == (m : Int)) = true := beq_self_eq_true _
        have q1 : ((rn : Int) == (rn : Int)) = true := beq_self_eq_true _
        have q2 : ((d : Int) == (d : Int)) = true := beq_self_eq_true _
        have hre : decide ((⟨m, rn, l, d⟩ : Sw) = ⟨m, rn, l2, d⟩) = decide (l = l2) := by simp
        rw [hre]
        clear hre
        obtain ⟨R, hR⟩ : ∃ R, decide (l = l2) = R := ⟨_, rfl⟩
        rw [hR] at HS ⊢
        clear hR
        have HB := allocs_below w [.cells #[.int .i64 (m : Int), .int .i64 (rn : Int), .slice A N c, .int .i64 (d : Int)] 34, .cells #[.int .i64 (m : Int), .int .i64 (rn : Int), .slice A2 N2 c2, .int .i64 (d : Int)] 34]
        have K_a : Blk (allocs w [.cells #[.int .i64 (m : Int), .int .i64 (rn : Int), .slice A N c, .int .i64 (d : Int)] 34, .cells #[.int .i64 (m : Int), .int .i64 (rn : Int), .slice A2 N2 c2, .int .i64 (d : Int)] 34]) (w.heap.size + 0) 34 #[.int .i64 (m : Int), .int .i64 (rn : Int), .slice A N c, .int .i64 (d : Int)] := allocs_at w [.cells #[.int .i64 (m : Int), .int .i64 (rn : Int), .slice A N c, .int .i64 (d : Int)] 34, .cells #[.int .i64 (m : Int), .int .i64 (rn : Int), .slice A2 N2 c2, .int .i64 (d : Int)] 34] 0 rfl
        have K_b : Blk (allocs w [.cells #[.int .i64 (m : Int), .int .i64 (rn : Int), .slice A N c, .int .i64 (d : Int)] 34, .cells #[.int .i64 (m : Int), .int .i64 (rn : Int), .slice A2 N2 c2, .int .i64 (d : Int)] 34]) (w.heap.size + 1) 34 #[.int .i64 (m : Int), .int .i64 (rn : Int), .slice A2 N2 c2, .int .i64 (d : Int)] := allocs_at w [.cells #[.int .i64 (m : Int), .int .i64 (rn : Int), .slice A N c, .int .i64 (d : Int)] 34, .cells #[.int .i64 (m : Int), .int .i64 (rn : Int), .slice A2 N2 c2, .int .i64 (d : Int)] 34] 1 rfl
        unfold allocs at HB K_a K_b
        simp only [List.foldl_cons, List.foldl_nil] at HB K_a K_b
        rw [Nat.add_zero] at K_a
        go_enter Tryz.func24, Tryz.ntmps24
        go_upto_region 1 with (fail)
        generalize ((w.alloc (.cells #[.int .i64 (m : Int), .int .i64 (rn : Int), .slice A N c, .int .i64 (d : Int)] 34)).alloc (.cells #[.int .i64 (m : Int), .int .i64 (rn : Int), .slice A2 N2 c2, .int .i64 (d : Int)] 34)) = w0 at *
        replace K_a := hide K_a
        replace K_b := hide K_b
        replace HB := hide HB
        have a0 := (Blk.cell K_a.out 0).trans (rfl : _ = some (Value.int .i64 (m : Int)))
        have a1 := (Blk.cell K_a.out 1).trans (rfl : _ = some (Value.int .i64 (rn : Int)))
        have a2 := (Blk.cell K_a.out 2).trans (rfl : _ = some (Value.slice A N c))
        have a3 := (Blk.cell K_a.out 3).trans (rfl : _ = some (Value.int .i64 (d : Int)))
        have b0 := (Blk.cell K_b.out 0).trans (rfl : _ = some (Value.int .i64 (m : Int)))
        have b1 := (Blk.cell K_b.out 1).trans (rfl : _ = some (Value.int .i64 (rn : Int)))
        have b2 := (Blk.cell K_b.out 2).trans (rfl : _ = some (Value.slice A2 N2 c2))
        have b3 := (Blk.cell K_b.out 3).trans (rfl : _ = some (Value.int .i64 (d : Int)))
        go_wp2_with fail
        refine (HS.out _ _ _ (H1.out.below HB.out) (H2.out.below HB.out)).mono ?_
        rintro e w1 ⟨rfl, hb⟩
        clear a0 a1 a2 a3 b0 b1 b2 b3
        replace K_a := hide (Blk.below K_a.out hb (Blk.lt K_a.out))
        replace K_b := hide (Blk.below K_b.out hb (Blk.lt K_b.out))
        replace HB := hide (HB.out.trans (hb.mono HB.out.size))
        clear hb
        go_wp2_with fail
        go_ret
        exact ⟨rfl, HB.out⟩
      · have hre : ¬ ((⟨m, rn, l, d⟩ : Sw) = ⟨m, rn, l2, d2⟩) := fun e => h2 (by injection e)
        rw [decide_eq_false hre]
        clear hre HS H1 H2
        have q0 : ((m : Int) == (m : Int)) = true := beq_self_eq_true _
        have q1 : ((rn : Int) == (rn : Int)) = true := beq_self_eq_true _
        have q2 : ((d : Int) == (d2 : Int)) = false := by simp; omega
        have HB := allocs_below w [.cells #[.int .i64 (m : Int), .int .i64 (rn : Int), .slice A N c, .int .i64 (d : Int)] 34, .cells #[.int .i64 (m : Int), .int .i64 (rn : Int), .slice A2 N2 c2, .int .i64 (d2 : Int)] 34]
        have K_a : Blk (allocs w [.cells #[.int .i64 (m : Int), .int .i64 (rn : Int), .slice A N c, .int .i64 (d : Int)] 34, .cells #[.int .i64 (m : Int), .int .i64 (rn : Int), .slice A2 N2 c2, .int .i64 (d2 : Int)] 34]) (w.heap.size + 0) 34 #[.int .i64 (m : Int), .int .i64 (rn : Int), .slice A N c, .int .i64 (d : Int)] := allocs_at w [.cells #[.int .i64 (m : Int), .int .i64 (rn : Int), .slice A N c, .int .i64 (d : Int)] 34, .cells #[.int .i64 (m : Int), .int .i64 (rn : Int), .slice A2 N2 c2, .int .i64 (d2 : Int)] 34] 0 rfl
        have K_b : Blk (allocs w [.cells #[.int .i64 (m : Int), .int .i64 (rn : Int), .slice A N c, .int .i64 (d : Int)] 34, .cells #[.int .i64 (m : Int), .int .i64 (rn : Int), .slice A2 N2 c2, .int .i64 (d2 : Int)] 34]) (w.heap.size + 1) 34 #[.int .i64 (m : Int), .int .i64 (rn : Int), .slice A2 N2 c2, .int .i64 (d2 : Int)] := allocs_at w [.cells #[.int .i64 (m : Int), .int .i64 (rn : Int), .slice A N c, .int .i64 (d : Int)] 34, .cells #[.int .i64 (m : Int), .int .i64 (rn : Int), .slice A2 N2 c2, .int .i64 (d2 : Int)] 34] 1 rfl
        unfold allocs at HB K_a K_b
        simp only [List.foldl_cons, List.foldl_nil] at HB K_a K_b
        rw [Nat.add_zero] at K_a
        go_enter Tryz.func24, Tryz.ntmps24
        go_upto_region 1 with (fail)
        generalize ((w.alloc (.cells #[.int .i64 (m : Int), .int .i64 (rn : Int), .slice A N c, .int .i64 (d : Int)] 34)).alloc (.cells #[.int .i64 (m : Int), .int .i64 (rn : Int), .slice A2 N2 c2, .int .i64 (d2 : Int)] 34)) = w0 at *
        replace K_a := hide K_a
        replace K_b := hide K_b
        replace HB := hide HB
        have a0 := (Blk.cell K_a.out 0).trans (rfl : _ = some (Value.int .i64 (m : Int)))
        have a1 := (Blk.cell K_a.out 1).trans (rfl : _ = some (Value.int .i64 (rn : Int)))
        have a2 := (Blk.cell K_a.out 2).trans (rfl : _ = some (Value.slice A N c))
        have a3 := (Blk.cell K_a.out 3).trans (rfl : _ = some (Value.int .i64 (d : Int)))
        have b0 := (Blk.cell K_b.out 0).trans (rfl : _ = some (Value.int .i64 (m : Int)))
        have b1 := (Blk.cell K_b.out 1).trans (rfl : _ = some (Value.int .i64 (rn : Int)))
        have b2 := (Blk.cell K_b.out 2).trans (rfl : _ = some (Value.slice A2 N2 c2))
        have b3 := (Blk.cell K_b.out 3).trans (rfl : _ = some (Value.int .i64 (d2 : Int)))
        go_wp2_with fail
        go_ret
        exact ⟨rfl, HB.out⟩
    · have hre : ¬ ((⟨m, rn, l, d⟩ : Sw) = ⟨m, rn2, l2, d2⟩) := fun e => h1 (by injection e)
      rw [decide_eq_false hre]
      clear hre HS H1 H2
      have q0 : ((m : Int) == (m : Int)) = true := beq_self_eq_true _
      have q1 : ((rn : Int) == (rn2 : Int)) = false := by simp; omega
      have HB := allocs_below w [.cells #[.int .i64 (m : Int), .int .i64 (rn : Int), .slice A N c, .int .i64 (d : Int)] 34, .cells #[.int .i64 (m : Int), .int .i64 (rn2 : Int), .slice A2 N2 c2, .int .i64 (d2 : Int)] 34]
      have K_a : Blk (allocs w [.cells #[.int .i64 (m : Int), .int .i64 (rn : Int), .slice A N c, .int .i64 (d : Int)] 34, .cells #[.int .i64 (m : Int), .int .i64 (rn2 : Int), .slice A2 N2 c2, .int .i64 (d2 : Int)] 34]) (w.heap.size + 0) 34 #[.int .i64 (m : Int), .int .i64 (rn : Int), .slice A N c, .int .i64 (d : Int)] := allocs_at w [.cells #[.int .i64 (m : Int), .int .i64 (rn : Int), .slice A N c, .int .i64 (d : Int)] 34, .cells #[.int .i64 (m : Int), .int .i64 (rn2 : Int), .slice A2 N2 c2, .int .i64 (d2 : Int)] 34] 0 rfl
      have K_b : Blk (allocs w [.cells #[.int .i64 (m : Int), .int .i64 (rn : Int), .slice A N c, .int .i64 (d : Int)] 34, .cells #[.int .i64 (m : Int), .int .i64 (rn2 : Int), .slice A2 N2 c2, .int .i64 (d2 : Int)] 34]) (w.heap.size + 1) 34 #[.int .i64 (m : Int), .int .i64 (rn2 : Int), .slice A2 N2 c2, .int .i64 (d2 : Int)] := allocs_at w [.cells #[.int .i64 (m : Int), .int .i64 (rn : Int), .slice A N c, .int .i64 (d : Int)] 34, .cells #[.int .i64 (m : Int), .int .i64 (rn2 : Int), .slice A2 N2 c2, .int .i64 (d2 : Int)] 34] 1 rfl
      unfold allocs at HB K_a K_b
      simp only [List.foldl_cons, List.foldl_nil] at HB K_a K_b
      rw [Nat.add_zero] at K_a
      go_enter Tryz.func24, Tryz.ntmps24
      go_upto_region 1 with (fail)
      generalize ((w.alloc (.cells #[.int .i64 (m : Int), .int .i64 (rn : Int), .slice A N c, .int .i64 (d : Int)] 34)).alloc (.cells #[.int .i64 (m : Int), .int .i64 (rn2 : Int), .slice A2 N2 c2, .int .i64 (d2 : Int)] 34)) = w0 at *
      replace K_a := hide K_a
      replace K_b := hide K_b
      replace HB := hide HB
      have a0 := (Blk.cell K_a.out 0).trans (rfl : _ = some (Value.int .i64 (m : Int)))
      have a1 := (Blk.cell K_a.out 1).trans (rfl : _ = some (Value.int .i64 (rn : Int)))
      have a2 := (Blk.cell K_a.out 2).trans (rfl : _ = some (Value.slice A N c))
      have a3 := (Blk.cell K_a.out 3).trans (rfl : _ = some (Value.int .i64 (d : Int)))
      have b0 := (Blk.cell K_b.out 0).trans (rfl : _ = some (Value.int .i64 (m : Int)))
      have b1 := (Blk.cell K_b.out 1).trans (rfl : _ = some (Value.int .i64 (rn2 : Int)))
      have b2 := (Blk.cell K_b.out 2).trans (rfl : _ = some (Value.slice A2 N2 c2))
      have b3 := (Blk.cell K_b.out 3).trans (rfl : _ = some (Value.int .i64 (d2 : Int)))
      go_wp2_with fail
      go_ret
      exact ⟨rfl, HB.out⟩
  · have hre : ¬ ((⟨m, rn, l, d⟩ : Sw) = ⟨m2, rn2, l2, d2⟩) := fun e => h0 (by injection e)
    rw [decide_eq_false hre]
    clear hre HS H1 H2
    have q0 : ((m : Int) == (m2 : Int)) = false := by simp; omega
    have HB := allocs_below w [.cells #[.int .i64 (m : Int), .int .i64 (rn : Int), .slice A N c, .int .i64 (d : Int)] 34, .cells #[.int .i64 (m2 : Int), .int .i64 (rn2 : Int), .slice A2 N2 c2, .int .i64 (d2 : Int)] 34]
    have K_a : Blk (allocs w [.cells #[.int .i64 (m : Int), .int .i64 (rn : Int), .slice A N c, .int .i64 (d : Int)] 34, .cells #[.int .i64 (m2 : Int), .int .i64 (rn2 : Int), .slice A2 N2 c2, .int .i64 (d2 : Int)] 34]) (w.heap.size + 0) 34 #[.int .i64 (m : Int), .int .i64 (rn : Int), .slice A N c, .int .i64 (d : Int)] := allocs_at w [.cells #[.int .i64 (m : Int), .int .i64 (rn : Int), .slice A N c, .int .i64 (d : Int)] 34, .cells #[.int .i64 (m2 : Int), .int .i64 (rn2 : Int), .slice A2 N2 c2, .int .i64 (d2 : Int)] 34] 0 rfl
    have K_b : Blk (allocs w [.cells #[.int .i64 (m : Int), .int .i64 (rn : Int), .slice A N c, .int .i64 (d : Int)] 34, .cells #[.int .i64 (m2 : Int), .int .i64 (rn2 : Int), .slice A2 N2 c2, .int .i64 (d2 : Int)] 34]) (w.heap.size + 1) 34 #[.int .i64 (m2 : Int), .int .i64 (rn2 : Int), .slice A2 N2 c2, .int .i64 (d2 : Int)] := allocs_at w [.cells #[.int .i64 (m : Int), .int .i64 (rn : Int), .slice A N c, .int .i64 (d : Int)] 34, .cells #[.int .i64 (m2 : Int), .int .i64 (rn2 : Int), .slice A2 N2 c2, .int .i64 (d2 : Int)] 34] 1 rfl
    unfold allocs at HB K_a K_b
    simp only [List.foldl_cons, List.foldl_nil] at HB K_a K_b
    rw [Nat.add_zero] at K_a
    go_enter Tryz.func24, Tryz.ntmps24
    go_upto_region 1 with (fail)
    generalize ((w.alloc (.cells #[.int .i64 (m : Int), .int .i64 (rn : Int), .slice A N c, .int .i64 (d : Int)] 34)).alloc (.cells #[.int .i64 (m2 : Int), .int .i64 (rn2 : Int), .slice A2 N2 c2, .int .i64 (d2 : Int)] 34)) = w0 at *
    replace K_a := hide K_a
    replace K_b := hide K_b
    replace HB := hide HB
    have a0 := (Blk.cell K_a.out 0).trans (rfl : _ = some (Value.int .i64 (m : Int)))
    have a1 := (Blk.cell K_a.out 1).trans (rfl : _ = some (Value.int .i64 (rn : Int)))
    have a2 := (Blk.cell K_a.out 2).trans (rfl : _ = some (Value.slice A N c))
    have a3 := (Blk.cell K_a.out 3).trans (rfl : _ = some (Value.int .i64 (d : Int)))
    have b0 := (Blk.cell K_b.out 0).trans (rfl : _ = some (Value.int .i64 (m2 : Int)))
    have b1 := (Blk.cell K_b.out 1).trans (rfl : _ = some (Value.int .i64 (rn2 : Int)))
    have b2 := (Blk.cell K_b.out 2).trans (rfl : _ = some (Value.slice A2 N2 c2))
    have b3 := (Blk.cell K_b.out 3).trans (rfl : _ = some (Value.int .i64 (d2 : Int)))
    go_wp2_with fail
    go_ret
    exact ⟨rfl, HB.out⟩
end Go.Proofs.YthmmgjieppknkaaGreatDoor
