/- Contracts and plain laws that the statements of this seat share (part Ktax). -/
import Derived.Test.YthmmgjieppknkaaGreatDoorKtaa
import Derived.Test.YthmmgjieppknkaaGreatDoorKtab
import Derived.Test.YthmmgjieppknkaaGreatDoorKtac
import Derived.Test.YthmmgjieppknkaaGreatDoorKtad
import Derived.Test.YthmmgjieppknkaaGreatDoorKtaf
import Derived.Test.YthmmgjieppknkaaGreatDoorKtag
import Derived.Test.YthmmgjieppknkaaGreatDoorKtah
import Derived.Test.YthmmgjieppknkaaGreatDoorKtai
import Derived.Test.YthmmgjieppknkaaGreatDoorKtak
import Derived.Test.YthmmgjieppknkaaGreatDoorKtal
import Derived.Test.YthmmgjieppknkaaGreatDoorKtam
import Derived.Test.YthmmgjieppknkaaGreatDoorKtan
import Derived.Test.YthmmgjieppknkaaGreatDoorKtao
import Derived.Test.YthmmgjieppknkaaGreatDoorKtap
import Derived.Test.YthmmgjieppknkaaGreatDoorKtaq
import Derived.Test.YthmmgjieppknkaaGreatDoorKtar
import Derived.Test.YthmmgjieppknkaaGreatDoorKtas
import Derived.Test.YthmmgjieppknkaaGreatDoorKtat
import Derived.Test.YthmmgjieppknkaaGreatDoorKtau
import Derived.Test.YthmmgjieppknkaaGreatDoorKtav
import Derived.Maps.OwnOps
import Derived.Deep.RegionHeld3
import Derived.Deep.RegionHeld
import Derived.Maps.RangeWalk
import Derived.Deep.RegionWith
import Derived.Laws.OwnMore
import Derived.Maps.AppendAt
namespace Go.Proofs.YthmmgjieppknkaaGreatDoor
open Go.RowKit Go.Shelf Go.Maps MLab
theorem step_put {P : Program} {k : TypeId} {α : Type} {M : KeyKind P k α} {w : World} {b : Nat} {L : List (α × Rat)} {ops : Array Oper} {o : Oper} {a : Act} {K : Act → World → Prop} {Q : Exit → Act → World → Prop} {E : Prop} (hg : o.guard = none) (m x y : Operand) (t : TypeId) (hop : o.op = Op.mapUpdate t m x y) {e : TypeId}
    (ht : P.underlying t = some (.map k e)) (hm : a.eval m = .map (some b)) (h : MapIs M w b L) (c : α) (ha : M.ok c) (hx : a.eval x = M.lay c) (v : Rat) (hy : a.eval y = tv v) (L' : List (α × Rat))
    (hL : ((∀ x ∈ L, x.1 ≠ c) ∧ L' = L ++ [(c, v)]) ∨ ∃ (j : Nat) (u : Rat), L[j]? = some (c, u) ∧ L' = L.set j (c, v))
    (hK : ∀ w', MapIs M w' b L' → w.grownBy w' (some b) → w'.heap.size = w.heap.size → K (a.put o.dst (.tuple #[])) w') : if Region.wanted o (yielded ops a.tmps) = true then Oper.wp P o a w K Q else E := by
  have hw : Region.wanted o (yielded ops a.tmps) = true := by simp [Region.wanted, hg]
  rw [if_pos hw]
  unfold Oper.wp
  rcases hL with ⟨hn, rfl⟩ | ⟨j, u, hj, rfl⟩
  · obtain ⟨w', hrun, g1, g2, g3⟩ := h.put_new ht ha hn v
    simp [execOp, hop, hm, hx, hy, hrun, Result.andThen]
    exact hK _ g3 g1 g2
  · obtain ⟨w', hrun, g1, g2, g3⟩ := h.put_old ht ha hj v
    simp [execOp, hop, hm, hx, hy, hrun, Result.andThen]
    exact hK _ g3 g1 g2
theorem wpList_ins {P : Program} {k : TypeId} {α : Type} {M : KeyKind P k α} {w : World} {b : Nat} {L : List (α × Rat)} {ops : Array Oper} {rest : List Oper} {o : Oper} {a : Act} {Q : Exit → Act → World → Prop} (hg : o.guard = none) (m x y : Operand) (t : TypeId) (hop : o.op = Op.insert t m x y) {e : TypeId}
    (ht : P.underlying t = some (.map k e)) (hm : a.eval m = .map (some b)) (h : MapIs M w b L) (c : α) (ha : M.ok c) (hx : a.eval x = M.lay c) (v : Rat) (hy : a.eval y = tv v) (hn : ∀ x ∈ L, x.1 ≠ c)
    (hK : ∀ w', MapIs M w' b (L ++ [(c, v)]) → w.grownBy w' (some b) → w'.heap.size = w.heap.size → wpList P ops Q rest (a.put o.dst (.tuple #[])) w') : wpList P ops Q (o :: rest) a w := by
  refine wpList_plain hg fun K' hK' => ?_
  unfold Oper.wp
  obtain ⟨w', hrun, g1, g2, g3⟩ := h.put_new ht ha hn v
  simp [execOp, hop, hm, hx, hy, hrun, Result.andThen]
  exact hK' _ _ (hK w' g3 g1 g2)
theorem grown_of_below2 {w w1 : World} (h : Below w.heap.size w w1) (row : Option Nat) : w.grownBy w1 row := ⟨h.os, h.tape, h.output, h.size, fun k hk _ => h.block k hk⟩
theorem zero_rat (W : World) : (zeroValue 65).run Tryz.prog W = .ok (.string ⟨#[]⟩) W := by
  obtain ⟨i, hi, h1, _⟩ := info_parts (show (Tryz.prog.info? 65).map (fun i => (i.zero, i.size, i.bytes)) = some (some (.string ⟨#[]⟩), 1, 16) by kernel_rfl)
  simp [zeroValue, typeInfo, hi, h1, go_sem]
set_option maxRecDepth 100000 in
set_option maxHeartbeats 4000000 in
theorem shareM_any (w : World) (b : Nat) (L : List (Nat × Rat)) (a : Nat) (p q : Rat) (m : Nat) (hm : m ≤ 500) (hM : MapIs modeKind w b L) (ha : a ≤ 3) (hp : Sz m m p) (hq : Sz m m q) (hx : Sz m m (p * q)) (hL : ∀ y ∈ L, Sz m m y.2) (hs : Std w) :
    Calls Tryz.prog 67 #[.map (some b), .int .i64 (a : Int), tv p, tv q] w fun e w' => e = .returned (.int .i64 0) ∧ (∃ L', AddL L a (p * q) L' ∧ MapIs modeKind w' b L') ∧ w.grownBy w' (some b) := by
  have HMU := hide (fun (W : World) (hS : Std W) => mulS_any W ⟨(RT p).toArray⟩ ⟨(RT q).toArray⟩ p q m rfl rfl hm hp hq hS)
  have HAD := hide (fun (W : World) (u : Rat) (hu : Sz m m u) (hS : Std W) => addS_any W ⟨(RT u).toArray⟩ ⟨(RT (p * q)).toArray⟩ u (p * q) m rfl rfl hm hu hx hS)
  unfold RetRat at HMU HAD
  have HZS := hide (show Sz m m 0 from ⟨by show 0 < 10 ^ m; exact Nat.pow_pos (by omega), by show 1 ≤ 10 ^ m; exact Nat.pow_pos (by omega)⟩)
  have HLS := hide hL
  have HMM := hide hM
  have HA := hide ha
  have HS := hide hs
  unfold tv
  obtain ⟨x, hxx⟩ : ∃ x, p * q = x := ⟨_, rfl⟩
  rw [hxx] at HMU HAD ⊢
  clear hp hq hx hL hM ha hs hxx
  go_enter Tryz.func67, Tryz.ntmps67
  go_wp2_with fail
  refine (HMU.out _ HS.out).mono ?_
  rintro e w1 ⟨rfl, hb⟩
  have HM1 := hide (HMM.out.below hb)
  have HB := hide hb
  have HS1 := hide (HS.out.below hb (Nat.le_refl _))
  clear hb HMU
  go_wp2_with (at_lookup; refine wpList_look rfl _ _ 124 rfl Tryz.underlying124 (zero_rat _) rfl HM1.out a HA.out rfl ?nn ?ss)
  case nn =>
    intro hn
    have HNN := hide (show ∀ y ∈ L, y.1 ≠ a from fun y hy => hn y.1 y.2 hy)
    clear hn
    have HAU := hide (fun (W : World) (hS : Std W) => HAD.out W 0 HZS.out hS)
    rw [RT_zero] at HAU
    obtain ⟨s, hsu⟩ : ∃ s, 0 + x = s := ⟨_, rfl⟩
    rw [hsu] at HAU
    have HSU := hide hsu
    clear hsu
    go_wp2_with fail
    refine (HAU.out _ HS1.out).mono ?_
    rintro e w2 ⟨rfl, hb⟩
    have HM2 := hide (HM1.out.below hb)
    have HB2 := hide (HB.out.trans (hb.mono HB.out.size))
    clear hb
    go_wp2_with (first | (at_mapUpdate; refine wpList_put rfl _ _ _ 124 rfl Tryz.underlying124 rfl HM2.out a HA.out rfl s rfl _ (Or.inl ⟨HNN.out, rfl⟩) ?_; intro w3 hm3 hg3 hz3))
    have HM3 := hide hm3
    have HG3 := hide ((grown_of_below2 HB2.out (some b)).trans hg3)
    clear hm3 hg3 hz3
    go_wp2_with fail
    go_ret
    exact ⟨rfl, ⟨_, Or.inl ⟨HNN.out, by rw [HSU.out]⟩, HM3.out⟩, HG3.out⟩
  case ss =>
    intro j u hj
    have HJ := hide hj
    have HUS := hide (HLS.out _ (List.mem_of_getElem? hj))
    clear hj
    have HAU := hide (fun (W : World) (hS : Std W) => HAD.out W u HUS.out hS)
    obtain ⟨s, hsu⟩ : ∃ s, u + x = s := ⟨_, rfl⟩
    rw [hsu] at HAU
    have HSU := hide hsu
    clear hsu
    unfold tv
    go_wp2_with fail
    refine (HAU.out _ HS1.out).mono ?_
    rintro e w2 ⟨rfl, hb⟩
    have HM2 := hide (HM1.out.below hb)
    have HB2 := hide (HB.out.trans (hb.mono HB.out.size))
    clear hb
    go_wp2_with (first | (at_mapUpdate; refine wpList_put rfl _ _ _ 124 rfl Tryz.underlying124 rfl HM2.out a HA.out rfl s rfl _ (Or.inr ⟨j, u, HJ.out, rfl⟩) ?_; intro w3 hm3 hg3 hz3))
    have HM3 := hide hm3
    have HG3 := hide ((grown_of_below2 HB2.out (some b)).trans hg3)
    clear hm3 hg3 hz3
    go_wp2_with fail
    go_ret
    exact ⟨rfl, ⟨_, Or.inr ⟨j, u, HJ.out, by rw [HSU.out]⟩, HM3.out⟩, HG3.out⟩
set_option maxRecDepth 100000 in
set_option maxHeartbeats 4000000 in
theorem shareP_any (w : World) (b : Nat) (L : List (Pt × Rat)) (a : Pt) (p q : Rat) (m : Nat) (hm : m ≤ 500) (hM : MapIs ptKind w b L) (ha : OkP a) (hp : Sz m m p) (hq : Sz m m q) (hx : Sz m m (p * q)) (hL : ∀ y ∈ L, Sz m m y.2) (hs : Std w) :
    Calls Tryz.prog 66 #[.map (some b), ptV a, tv p, tv q] w fun e w' => e = .returned (.int .i64 0) ∧ (∃ L', AddL L a (p * q) L' ∧ MapIs ptKind w' b L') ∧ w.grownBy w' (some b) := by
  have HMU := hide (fun (W : World) (hS : Std W) => mulS_any W ⟨(RT p).toArray⟩ ⟨(RT q).toArray⟩ p q m rfl rfl hm hp hq hS)
  have HAD := hide (fun (W : World) (u : Rat) (hu : Sz m m u) (hS : Std W) => addS_any W ⟨(RT u).toArray⟩ ⟨(RT (p * q)).toArray⟩ u (p * q) m rfl rfl hm hu hx hS)
  unfold RetRat at HMU HAD
  have HZS := hide (show Sz m m 0 from ⟨by show 0 < 10 ^ m; exact Nat.pow_pos (by omega), by show 1 ≤ 10 ^ m; exact Nat.pow_pos (by omega)⟩)
  have HLS := hide hL
  have HMM := hide hM
  have HA := hide ha
  have HS := hide hs
  unfold tv
  obtain ⟨x, hxx⟩ : ∃ x, p * q = x := ⟨_, rfl⟩
  rw [hxx] at HMU HAD ⊢
  clear hp hq hx hL hM ha hs hxx
  unfold ptV
  have hbk := HMM.out.lt
  have HBK := hide hbk
  clear hbk
  have HB := allocs_below w [.cells #[.int .i64 (a.mode : Int), .int .i64 (a.run : Int), .int .i64 (a.last : Int), .int .i64 (a.rej : Int)] 105]
  have K_k : Blk (allocs w [.cells #[.int .i64 (a.mode : Int), .int .i64 (a.run : Int), .int .i64 (a.last : Int), .int .i64 (a.rej : Int)] 105]) (w.heap.size + 0) 105 #[.int .i64 (a.mode : Int), .int .i64 (a.run : Int), .int .i64 (a.last : Int), .int .i64 (a.rej : Int)] := allocs_at w [.cells #[.int .i64 (a.mode : Int), .int .i64 (a.run : Int), .int .i64 (a.last : Int), .int .i64 (a.rej : Int)] 105] 0 rfl
  unfold allocs at HB K_k
  simp only [List.foldl_cons, List.foldl_nil] at HB K_k
  rw [Nat.add_zero] at K_k
  go_enter Tryz.func66, Tryz.ntmps66
  go_upto_region 1 with (fail)
  generalize (w.alloc (.cells #[.int .i64 (a.mode : Int), .int .i64 (a.run : Int), .int .i64 (a.last : Int), .int .i64 (a.rej : Int)] 105)) = w0 at *
  replace K_k := hide K_k
  replace HB := hide HB
  go_wp2_with fail
  refine (HMU.out _ (HS.out.below HB.out (Nat.le_refl _))).mono ?_
  rintro e w1 ⟨rfl, hb⟩
  replace K_k := hide (Blk.below K_k.out hb (Blk.lt K_k.out))
  replace HB := hide (HB.out.trans (hb.mono HB.out.size))
  clear hb
  have HM1 := hide (HMM.out.below HB.out)
  have HS1 := hide (HS.out.below HB.out (Nat.le_refl _))
  clear HMU
  have k0 := (Blk.cell K_k.out 0).trans (rfl : _ = some (Value.int .i64 (a.mode : Int)))
  have k1 := (Blk.cell K_k.out 1).trans (rfl : _ = some (Value.int .i64 (a.run : Int)))
  have k2 := (Blk.cell K_k.out 2).trans (rfl : _ = some (Value.int .i64 (a.last : Int)))
  have k3 := (Blk.cell K_k.out 3).trans (rfl : _ = some (Value.int .i64 (a.rej : Int)))
  go_wp2_with (at_lookup; refine wpList_look rfl _ _ 121 rfl Tryz.underlying121 (zero_rat _) rfl HM1.out a HA.out rfl ?nn ?ss)
  case nn =>
    intro hn
    have HNN := hide (show ∀ y ∈ L, y.1 ≠ a from fun y hy => hn y.1 y.2 hy)
    clear hn
    have HAU := hide (fun (W : World) (hS : Std W) => HAD.out W 0 HZS.out hS)
    rw [RT_zero] at HAU
    obtain ⟨s, hsu⟩ : ∃ s, 0 + x = s := ⟨_, rfl⟩
    rw [hsu] at HAU
    have HSU := hide hsu
    clear hsu
    go_upto_region 7 with (fail)
    have SK : ∀ w', w1.grownBy w' (some b) → w1.grownBy w' (some b) ∧ w'.cell? ⟨w.heap.size, 0, none⟩ = some (.int .i64 (a.mode : Int)) ∧ w'.cell? ⟨w.heap.size, 1, none⟩ = some (.int .i64 (a.run : Int)) ∧ w'.cell? ⟨w.heap.size, 2, none⟩ = some (.int .i64 (a.last : Int)) ∧ w'.cell? ⟨w.heap.size, 3, none⟩ = some (.int .i64 (a.rej : Int)) := fun w' h => ⟨h, h.cell k0 (by have := HBK.out; simp; omega), h.cell k1 (by have := HBK.out; simp; omega), h.cell k2 (by have := HBK.out; simp; omega), h.cell k3 (by have := HBK.out; simp; omega)⟩
    refine wp_region_held_drew (S := fun w' => w1.grownBy w' (some b) ∧ w'.cell? ⟨w.heap.size, 0, none⟩ = some (.int .i64 (a.mode : Int)) ∧ w'.cell? ⟨w.heap.size, 1, none⟩ = some (.int .i64 (a.run : Int)) ∧ w'.cell? ⟨w.heap.size, 2, none⟩ = some (.int .i64 (a.last : Int)) ∧ w'.cell? ⟨w.heap.size, 3, none⟩ = some (.int .i64 (a.rej : Int))) (by kernel_rfl) (SK _ (only_drew (only_refl w1 (some b)))) (fun hHeld => ?_)
    refine wpAnyH_take (i := 0) (v := ?tv1) rfl (by kernel_rfl) (by kernel_rfl) (by kernel_rfl) (fun _ _ _ h => h) (Or.inl ⟨by rfl, ?ty1⟩) (by assumption) ?tr1
    case ty1 => (intro w hSw; (try dsimp only at hSw); go_simp; try (with_reducible rfl))
    (try simp only [Act.put]); (try simp only [List.setIfInBounds_toArray]); (try simp only [List.set_cons_succ]); (try simp only [List.set_cons_zero])
    refine wpAnyH_take (i := 1) (v := ?tv2) rfl (by kernel_rfl) (by kernel_rfl) (by kernel_rfl) (fun _ _ _ h => h) (Or.inl ⟨by rfl, ?ty2⟩) (by assumption) ?tr2
    case ty2 => (intro w hSw; (try dsimp only at hSw); go_simp; try (with_reducible rfl))
    (try simp only [Act.put]); (try simp only [List.setIfInBounds_toArray]); (try simp only [List.set_cons_succ]); (try simp only [List.set_cons_zero])
    refine wpAnyH_take (i := 2) (v := ?tv3) rfl (by kernel_rfl) (by kernel_rfl) (by kernel_rfl) (fun _ _ _ h => h) (Or.inl ⟨by rfl, ?ty3⟩) (by assumption) ?tr3
    case ty3 => (intro w hSw; (try dsimp only at hSw); go_simp; try (with_reducible rfl))
    (try simp only [Act.put]); (try simp only [List.setIfInBounds_toArray]); (try simp only [List.set_cons_succ]); (try simp only [List.set_cons_zero])
    refine wpAnyH_take (i := 3) (v := ?tv4) rfl (by kernel_rfl) (by kernel_rfl) (by kernel_rfl) (fun _ _ _ h => h) (Or.inl ⟨by rfl, ?ty4⟩) (by assumption) ?tr4
    case ty4 => (intro w hSw; (try dsimp only at hSw); go_simp; try (with_reducible rfl))
    (try simp only [Act.put]); (try simp only [List.setIfInBounds_toArray]); (try simp only [List.set_cons_succ]); (try simp only [List.set_cons_zero])
    refine wpAnyH_ready (rs := [4]) (by kernel_rfl) (by simp) ?_
    refine AllReadyH.cons rfl (fun K hK => ?_) AllReadyH.nil
    go_simp
    refine (HAU.out _ (HS1.out.below ((Below.refl _ _).drew) (Nat.le_refl _))).mono ?_
    rintro e wx ⟨rfl, hbW⟩
    have hbx : Below w1.heap.size w1 wx := ((Below.refl _ w1).drew).trans hbW
    have HBX := hide hbx
    clear hbW hbx
    go_wp2_with fail
    refine hK.out _ _ ?_ (fun hHeld => ?_)
    · exact SK _ (only_of_below HBX.out _)
    clear hK K
    (try simp only [Act.put]); (try simp only [List.setIfInBounds_toArray]); (try simp only [List.set_cons_succ]); (try simp only [List.set_cons_zero])
    refine wpAnyH_take (i := 5) (v := ?tv5) rfl (by kernel_rfl) (by kernel_rfl) (by kernel_rfl) (fun _ _ _ h => h) (Or.inl ⟨by rfl, ?ty5⟩) (by assumption) ?tr5
    case ty5 => (intro w hSw; (try dsimp only at hSw); go_simp; try (with_reducible rfl))
    (try simp only [Act.put]); (try simp only [List.setIfInBounds_toArray]); (try simp only [List.set_cons_succ]); (try simp only [List.set_cons_zero])
    refine wpAnyH_take (i := 6) (v := ?tv6) rfl (by kernel_rfl) (by kernel_rfl) (by kernel_rfl) (fun _ _ _ h => h) (Or.inl ⟨by rfl, ?ty6⟩) (by assumption) ?tr6
    case ty6 => (intro w hSw; (try dsimp only at hSw); go_simp; try (with_reducible rfl))
    (try simp only [Act.put]); (try simp only [List.setIfInBounds_toArray]); (try simp only [List.set_cons_succ]); (try simp only [List.set_cons_zero])
    refine wpAnyH_ready (rs := [7, 8]) (by kernel_rfl) (by simp) ?_
    refine AllReadyH.cons rfl (fun K hK => ?_) (AllReadyH.cons rfl (fun K hK => ?_) AllReadyH.nil)
    · go_simp
      refine hK.out _ _ ?_ (fun hHeld => ?_)
      · exact SK _ (only_of_below HBX.out _)
      clear hK K
      (try simp only [Act.put]); (try simp only [List.setIfInBounds_toArray]); (try simp only [List.set_cons_succ]); (try simp only [List.set_cons_zero])
      refine wpAnyH_ready (rs := [8]) (by kernel_rfl) (by simp) ?_
      refine AllReadyH.cons rfl (fun K hK => ?_) AllReadyH.nil
      refine step_put rfl _ _ _ 121 rfl Tryz.underlying121 rfl (HM1.out.below HBX.out) a HA.out rfl s rfl _ (Or.inl ⟨HNN.out, rfl⟩) ?_
      intro w3 hm3 hg3 hz3
      have hg4 := (only_of_below HBX.out (some b)).trans hg3
      have HM3 := hide hm3
      have HG3 := hide hg4
      clear hm3 hg3 hz3 hg4
      refine hK.out _ _ ?_ (fun hHeld => ?_)
      · exact SK _ HG3.out
      clear hK K
      (try simp only [Act.put]); (try simp only [List.setIfInBounds_toArray]); (try simp only [List.set_cons_succ]); (try simp only [List.set_cons_zero])
      refine wpAnyH_take (i := 9) (v := ?tv7) rfl (by kernel_rfl) (by kernel_rfl) (by kernel_rfl) (fun _ _ _ h => h) (Or.inl ⟨by rfl, ?ty7⟩) (by assumption) ?tr7
      case ty7 => (intro w hSw; (try dsimp only at hSw); go_simp; try (with_reducible rfl))
      (try simp only [Act.put]); (try simp only [List.setIfInBounds_toArray]); (try simp only [List.set_cons_succ]); (try simp only [List.set_cons_zero])
      refine wpAnyH_done (by kernel_rfl) ?_ _
      clear SK hHeld
      go_wp2_with fail
      go_ret
      exact ⟨rfl, ⟨_, Or.inl ⟨HNN.out, by rw [HSU.out]⟩, HM3.out⟩, (only_of_below HB.out (some b)).trans HG3.out⟩
    · refine step_put rfl _ _ _ 121 rfl Tryz.underlying121 rfl (HM1.out.below HBX.out) a HA.out rfl s rfl _ (Or.inl ⟨HNN.out, rfl⟩) ?_
      intro w3 hm3 hg3 hz3
      have hg4 := (only_of_below HBX.out (some b)).trans hg3
      have HM3 := hide hm3
      have HG3 := hide hg4
      clear hm3 hg3 hz3 hg4
      refine hK.out _ _ ?_ (fun hHeld => ?_)
      · exact SK _ HG3.out
      clear hK K
      (try simp only [Act.put]); (try simp only [List.setIfInBounds_toArray]); (try simp only [List.set_cons_succ]); (try simp only [List.set_cons_zero])
      refine wpAnyH_take (i := 7) (v := ?tv8) rfl (by kernel_rfl) (by kernel_rfl) (by kernel_rfl) (fun _ _ _ h => h) (Or.inl ⟨by rfl, ?ty8⟩) (by assumption) ?tr8
      case ty8 => (intro w hSw; (try dsimp only at hSw); go_simp; try (with_reducible rfl))
      (try simp only [Act.put]); (try simp only [List.setIfInBounds_toArray]); (try simp only [List.set_cons_succ]); (try simp only [List.set_cons_zero])
      refine wpAnyH_take (i := 9) (v := ?tv9) rfl (by kernel_rfl) (by kernel_rfl) (by kernel_rfl) (fun _ _ _ h => h) (Or.inl ⟨by rfl, ?ty9⟩) (by assumption) ?tr9
      case ty9 => (intro w hSw; (try dsimp only at hSw); go_simp; try (with_reducible rfl))
      (try simp only [Act.put]); (try simp only [List.setIfInBounds_toArray]); (try simp only [List.set_cons_succ]); (try simp only [List.set_cons_zero])
      refine wpAnyH_done (by kernel_rfl) ?_ _
      clear SK hHeld
      go_wp2_with fail
      go_ret
      exact ⟨rfl, ⟨_, Or.inl ⟨HNN.out, by rw [HSU.out]⟩, HM3.out⟩, (only_of_below HB.out (some b)).trans HG3.out⟩
  case ss =>
    intro j u hj
    have HJ := hide hj
    have HUS := hide (HLS.out _ (List.mem_of_getElem? hj))
    clear hj
    have HAU := hide (fun (W : World) (hS : Std W) => HAD.out W u HUS.out hS)
    obtain ⟨s, hsu⟩ : ∃ s, u + x = s := ⟨_, rfl⟩
    rw [hsu] at HAU
    have HSU := hide hsu
    clear hsu
    unfold tv
    go_upto_region 7 with (fail)
    have SK : ∀ w', w1.grownBy w' (some b) → w1.grownBy w' (some b) ∧ w'.cell? ⟨w.heap.size, 0, none⟩ = some (.int .i64 (a.mode : Int)) ∧ w'.cell? ⟨w.heap.size, 1, none⟩ = some (.int .i64 (a.run : Int)) ∧ w'.cell? ⟨w.heap.size, 2, none⟩ = some (.int .i64 (a.last : Int)) ∧ w'.cell? ⟨w.heap.size, 3, none⟩ = some (.int .i64 (a.rej : Int)) := fun w' h => ⟨h, h.cell k0 (by have := HBK.out; simp; omega), h.cell k1 (by have := HBK.out; simp; omega), h.cell k2 (by have := HBK.out; simp; omega), h.cell k3 (by have := HBK.out; simp; omega)⟩
    refine wp_region_held_drew (S := fun w' => w1.grownBy w' (some b) ∧ w'.cell? ⟨w.heap.size, 0, none⟩ = some (.int .i64 (a.mode : Int)) ∧ w'.cell? ⟨w.heap.size, 1, none⟩ = some (.int .i64 (a.run : Int)) ∧ w'.cell? ⟨w.heap.size, 2, none⟩ = some (.int .i64 (a.last : Int)) ∧ w'.cell? ⟨w.heap.size, 3, none⟩ = some (.int .i64 (a.rej : Int))) (by kernel_rfl) (SK _ (only_drew (only_refl w1 (some b)))) (fun hHeld => ?_)
    refine wpAnyH_take (i := 0) (v := ?tv10) rfl (by kernel_rfl) (by kernel_rfl) (by kernel_rfl) (fun _ _ _ h => h) (Or.inl ⟨by rfl, ?ty10⟩) (by assumption) ?tr10
    case ty10 => (intro w hSw; (try dsimp only at hSw); go_simp; try (with_reducible rfl))
    (try simp only [Act.put]); (try simp only [List.setIfInBounds_toArray]); (try simp only [List.set_cons_succ]); (try simp only [List.set_cons_zero])
    refine wpAnyH_take (i := 1) (v := ?tv11) rfl (by kernel_rfl) (by kernel_rfl) (by kernel_rfl) (fun _ _ _ h => h) (Or.inl ⟨by rfl, ?ty11⟩) (by assumption) ?tr11
    case ty11 => (intro w hSw; (try dsimp only at hSw); go_simp; try (with_reducible rfl))
    (try simp only [Act.put]); (try simp only [List.setIfInBounds_toArray]); (try simp only [List.set_cons_succ]); (try simp only [List.set_cons_zero])
    refine wpAnyH_take (i := 2) (v := ?tv12) rfl (by kernel_rfl) (by kernel_rfl) (by kernel_rfl) (fun _ _ _ h => h) (Or.inl ⟨by rfl, ?ty12⟩) (by assumption) ?tr12
    case ty12 => (intro w hSw; (try dsimp only at hSw); go_simp; try (with_reducible rfl))
    (try simp only [Act.put]); (try simp only [List.setIfInBounds_toArray]); (try simp only [List.set_cons_succ]); (try simp only [List.set_cons_zero])
    refine wpAnyH_take (i := 3) (v := ?tv13) rfl (by kernel_rfl) (by kernel_rfl) (by kernel_rfl) (fun _ _ _ h => h) (Or.inl ⟨by rfl, ?ty13⟩) (by assumption) ?tr13
    case ty13 => (intro w hSw; (try dsimp only at hSw); go_simp; try (with_reducible rfl))
    (try simp only [Act.put]); (try simp only [List.setIfInBounds_toArray]); (try simp only [List.set_cons_succ]); (try simp only [List.set_cons_zero])
    refine wpAnyH_ready (rs := [4]) (by kernel_rfl) (by simp) ?_
    refine AllReadyH.cons rfl (fun K hK => ?_) AllReadyH.nil
    go_simp
    refine (HAU.out _ (HS1.out.below ((Below.refl _ _).drew) (Nat.le_refl _))).mono ?_
    rintro e wx ⟨rfl, hbW⟩
    have hbx : Below w1.heap.size w1 wx := ((Below.refl _ w1).drew).trans hbW
    have HBX := hide hbx
    clear hbW hbx
    go_wp2_with fail
    refine hK.out _ _ ?_ (fun hHeld => ?_)
    · exact SK _ (only_of_below HBX.out _)
    clear hK K
    (try simp only [Act.put]); (try simp only [List.setIfInBounds_toArray]); (try simp only [List.set_cons_succ]); (try simp only [List.set_cons_zero])
    refine wpAnyH_take (i := 5) (v := ?tv14) rfl (by kernel_rfl) (by kernel_rfl) (by kernel_rfl) (fun _ _ _ h => h) (Or.inl ⟨by rfl, ?ty14⟩) (by assumption) ?tr14
    case ty14 => (intro w hSw; (try dsimp only at hSw); go_simp; try (with_reducible rfl))
    (try simp only [Act.put]); (try simp only [List.setIfInBounds_toArray]); (try simp only [List.set_cons_succ]); (try simp only [List.set_cons_zero])
    refine wpAnyH_take (i := 6) (v := ?tv15) rfl (by kernel_rfl) (by kernel_rfl) (by kernel_rfl) (fun _ _ _ h => h) (Or.inl ⟨by rfl, ?ty15⟩) (by assumption) ?tr15
    case ty15 => (intro w hSw; (try dsimp only at hSw); go_simp; try (with_reducible rfl))
    (try simp only [Act.put]); (try simp only [List.setIfInBounds_toArray]); (try simp only [List.set_cons_succ]); (try simp only [List.set_cons_zero])
    refine wpAnyH_ready (rs := [7, 8]) (by kernel_rfl) (by simp) ?_
    refine AllReadyH.cons rfl (fun K hK => ?_) (AllReadyH.cons rfl (fun K hK => ?_) AllReadyH.nil)
    · go_simp
      refine hK.out _ _ ?_ (fun hHeld => ?_)
      · exact SK _ (only_of_below HBX.out _)
      clear hK K
      (try simp only [Act.put]); (try simp only [List.setIfInBounds_toArray]); (try simp only [List.set_cons_succ]); (try simp only [List.set_cons_zero])
      refine wpAnyH_ready (rs := [8]) (by kernel_rfl) (by simp) ?_
      refine AllReadyH.cons rfl (fun K hK => ?_) AllReadyH.nil
      refine step_put rfl _ _ _ 121 rfl Tryz.underlying121 rfl (HM1.out.below HBX.out) a HA.out rfl s rfl _ (Or.inr ⟨j, u, HJ.out, rfl⟩) ?_
      intro w3 hm3 hg3 hz3
      have hg4 := (only_of_below HBX.out (some b)).trans hg3
      have HM3 := hide hm3
      have HG3 := hide hg4
      clear hm3 hg3 hz3 hg4
      refine hK.out _ _ ?_ (fun hHeld => ?_)
      · exact SK _ HG3.out
      clear hK K
      (try simp only [Act.put]); (try simp only [List.setIfInBounds_toArray]); (try simp only [List.set_cons_succ]); (try simp only [List.set_cons_zero])
      refine wpAnyH_take (i := 9) (v := ?tv16) rfl (by kernel_rfl) (by kernel_rfl) (by kernel_rfl) (fun _ _ _ h => h) (Or.inl ⟨by rfl, ?ty16⟩) (by assumption) ?tr16
      case ty16 => (intro w hSw; (try dsimp only at hSw); go_simp; try (with_reducible rfl))
      (try simp only [Act.put]); (try simp only [List.setIfInBounds_toArray]); (try simp only [List.set_cons_succ]); (try simp only [List.set_cons_zero])
      refine wpAnyH_done (by kernel_rfl) ?_ _
      clear SK hHeld
      go_wp2_with fail
      go_ret
      exact ⟨rfl, ⟨_, Or.inr ⟨j, u, HJ.out, by rw [HSU.out]⟩, HM3.out⟩, (only_of_below HB.out (some b)).trans HG3.out⟩
    · refine step_put rfl _ _ _ 121 rfl Tryz.underlying121 rfl (HM1.out.below HBX.out) a HA.out rfl s rfl _ (Or.inr ⟨j, u, HJ.out, rfl⟩) ?_
      intro w3 hm3 hg3 hz3
      have hg4 := (only_of_below HBX.out (some b)).trans hg3
      have HM3 := hide hm3
      have HG3 := hide hg4
      clear hm3 hg3 hz3 hg4
      refine hK.out _ _ ?_ (fun hHeld => ?_)
      · exact SK _ HG3.out
      clear hK K
      (try simp only [Act.put]); (try simp only [List.setIfInBounds_toArray]); (try simp only [List.set_cons_succ]); (try simp only [List.set_cons_zero])
      refine wpAnyH_take (i := 7) (v := ?tv17) rfl (by kernel_rfl) (by kernel_rfl) (by kernel_rfl) (fun _ _ _ h => h) (Or.inl ⟨by rfl, ?ty17⟩) (by assumption) ?tr17
      case ty17 => (intro w hSw; (try dsimp only at hSw); go_simp; try (with_reducible rfl))
      (try simp only [Act.put]); (try simp only [List.setIfInBounds_toArray]); (try simp only [List.set_cons_succ]); (try simp only [List.set_cons_zero])
      refine wpAnyH_take (i := 9) (v := ?tv18) rfl (by kernel_rfl) (by kernel_rfl) (by kernel_rfl) (fun _ _ _ h => h) (Or.inl ⟨by rfl, ?ty18⟩) (by assumption) ?tr18
      case ty18 => (intro w hSw; (try dsimp only at hSw); go_simp; try (with_reducible rfl))
      (try simp only [Act.put]); (try simp only [List.setIfInBounds_toArray]); (try simp only [List.set_cons_succ]); (try simp only [List.set_cons_zero])
      refine wpAnyH_done (by kernel_rfl) ?_ _
      clear SK hHeld
      go_wp2_with fail
      go_ret
      exact ⟨rfl, ⟨_, Or.inr ⟨j, u, HJ.out, by rw [HSU.out]⟩, HM3.out⟩, (only_of_below HB.out (some b)).trans HG3.out⟩
end Go.Proofs.YthmmgjieppknkaaGreatDoor

namespace Go.Proofs.YthmmgjieppknkaaGreatDoor
open Go.RowKit Go.Shelf Go.Maps MLab
theorem idx_rat {a : Nat → ByteArray} {j : Nat} (hj : j < 3) (w : World) :
    (Instr.index 66 (.agg #[.string (a 0), .string (a 1), .string (a 2)]) (.int .i64 (j : Int))).run Tryz.prog w = .ok (.string (a j)) w := by
  obtain ⟨i, hi⟩ : ∃ i, Tryz.prog.info? 65 = some i := Option.isSome_iff_exists.1 (by kernel_rfl)
  refine run_index_plain (show Tryz.prog.underlying 66 = some (.array 3 65) by kernel_rfl) hi (by kernel_rfl) (by kernel_rfl) hj ?_ w
  rcases (by omega : j = 0 ∨ j = 1 ∨ j = 2) with rfl | rfl | rfl <;> rfl
def badE (s t : Nat → Int) : Int := if (s 0 < 0 ∨ 0 < t 0) ∨ (s 1 < 0 ∨ 0 < t 1) ∨ (s 2 < 0 ∨ 0 < t 2) then 2 else 0
theorem badE_at {s t : Nat → Int} {j : Nat} (hj : j < 3) (h : s j < 0 ∨ 0 < t j) : badE s t = 2 := by
  unfold badE
  refine if_pos ?_
  rcases (by omega : j = 0 ∨ j = 1 ∨ j = 2) with rfl | rfl | rfl
  · exact .inl h
  · exact .inr (.inl h)
  · exact .inr (.inr h)
theorem badE_zero {s t : Nat → Int} (h : ∀ i, i < 3 → ¬ (s i < 0 ∨ 0 < t i)) : badE s t = 0 := by
  unfold badE
  refine if_neg ?_
  rintro (h1 | h1 | h1)
  · exact h 0 (by omega) h1
  · exact h 1 (by omega) h1
  · exact h 2 (by omega) h1
set_option maxRecDepth 100000 in
set_option maxHeartbeats 2000000 in
theorem given_rng (w : World) (a : Nat → ByteArray) (s t : Nat → Int) (hck : ∀ j, j < 3 → ∀ W, Std W → Calls Tryz.prog 101 #[.string (a j)] W fun e w' => e = .returned (.int .i64 0) ∧ Below W.heap.size W w')
    (hsg : ∀ j, j < 3 → ∀ W, Std W → Calls Tryz.prog 102 #[.string (a j)] W fun e w' => e = .returned (.tuple #[.int .i64 (s j), .int .i64 0]) ∧ Below W.heap.size W w')
    (hcp : ∀ j, j < 3 → ∀ W, Std W → Calls Tryz.prog 103 #[.string (a j), .string ⟨#[49]⟩] W fun e w' => e = .returned (.tuple #[.int .i64 (t j), .int .i64 0]) ∧ Below W.heap.size W w') (hs : Std w) :
    Calls Tryz.prog 63 #[.agg #[.string (a 0), .string (a 1), .string (a 2)]] w fun e w' => e = .returned (.int .i64 (badE s t)) ∧ Below w.heap.size w w' := by
  have HI := hide (fun (j : Nat) (hj : j < 3) W => idx_rat (a := a) hj W)
  have HCK := hide hck
  have HSG := hide hsg
  have HCP := hide hcp
  have HS := hide hs
  have HF := hide (fun j hj h => badE_at (s := s) (t := t) (j := j) hj h)
  have HF0 := hide (fun h => badE_zero (s := s) (t := t) h)
  obtain ⟨r, hr⟩ : ∃ r, badE s t = r := ⟨_, rfl⟩
  rw [hr] at HF HF0 ⊢
  clear hck hsg hcp hs hr
  have HB := allocs_below w [.cells #[.string (a 0), .string (a 1), .string (a 2)] 66]
  have K_p : Blk (allocs w [.cells #[.string (a 0), .string (a 1), .string (a 2)] 66]) (w.heap.size + 0) 66 #[.string (a 0), .string (a 1), .string (a 2)] := allocs_at w [.cells #[.string (a 0), .string (a 1), .string (a 2)] 66] 0 rfl
  unfold allocs at HB K_p
  simp only [List.foldl_cons, List.foldl_nil] at HB K_p
  rw [Nat.add_zero] at K_p
  go_enter Tryz.func63, Tryz.ntmps63
  go_upto_region 1 with (fail)
  generalize (w.alloc (.cells #[.string (a 0), .string (a 1), .string (a 2)] 66)) = w0 at *
  replace K_p := hide K_p
  replace HB := hide HB
  have p0 := (Blk.cell K_p.out 0).trans (rfl : _ = some (Value.string (a 0)))
  have p1 := (Blk.cell K_p.out 1).trans (rfl : _ = some (Value.string (a 1)))
  have p2 := (Blk.cell K_p.out 2).trans (rfl : _ = some (Value.string (a 2)))
  go_wp2_with fail
  go_loopg [13] 3 (fun y iv wr => ∃ j : Nat, iv = .int .i64 (j : Int) ∧ y + j = 3 ∧ Below w.heap.size w wr ∧ Blk wr w.heap.size 66 #[.string (a 0), .string (a 1), .string (a 2)])
  case atStart => exact ⟨0, rfl, rfl, HB.out, K_p.out⟩
  case round =>
    obtain ⟨j, rfl, hq, hb, hkp⟩ := hrel
    have HQ := hide hq
    have HB := hide hb
    have K_q := hide hkp
    have hj : j ≤ 3 := by omega
    clear hq hb hkp K_p p0 p1 p2
    by_cases hlt : j < 3
    · have hji : (j : Int) < 3 := by omega
      have hx := HI.out j hlt
      go_wp2_with fail
      refine (HCK.out j hlt _ (HS.out.below HB.out (Nat.le_refl _))).mono ?_
      rintro e w2 ⟨rfl, hb2⟩
      have HB2 := hide (HB.out.trans (hb2.mono HB.out.size))
      have K_q2 := hide (Blk.below K_q.out hb2 (Blk.lt K_q.out))
      clear hb2
      go_wp2_with fail
      go_roundg (gk - 1)
      case measure => have := HQ.out; omega
      case rel => exact ⟨j + 1, by go_num, by have := HQ.out; omega, HB2.out, K_q2.out⟩
    · have hji : ¬ (j : Int) < 3 := by omega
      have p0 := (Blk.cell K_q.out 0).trans (rfl : _ = some (Value.string (a 0)))
      have p1 := (Blk.cell K_q.out 1).trans (rfl : _ = some (Value.string (a 1)))
      have p2 := (Blk.cell K_q.out 2).trans (rfl : _ = some (Value.string (a 2)))
      go_wp2_with fail
      go_loopg [23] 3 (fun y iv wr => ∃ j : Nat, iv = .int .i64 (j : Int) ∧ y + j = 3 ∧ Below w.heap.size w wr ∧ ∀ i, i < j → ¬ (s i < 0 ∨ 0 < t i))
      case atStart => exact ⟨0, rfl, rfl, HB.out, fun i hi => absurd hi (by omega)⟩
      case round =>
        obtain ⟨j2, rfl, hq, hb, hr⟩ := hrel
        have HQ2 := hide hq
        have HB2 := hide hb
        have HR2 := hide hr
        have hj2 : j2 ≤ 3 := by omega
        clear hq hb hr
        by_cases hlt2 : j2 < 3
        · have hji2 : (j2 : Int) < 3 := by omega
          have hx := HI.out j2 hlt2
          have HSJ := hide (HSG.out j2 hlt2)
          have HTJ := hide (HCP.out j2 hlt2)
          have HFJ := hide (fun h => HF.out j2 hlt2 h)
          obtain ⟨p, hp⟩ : ∃ p, s j2 = p := ⟨_, rfl⟩
          obtain ⟨q, hq⟩ : ∃ q, t j2 = q := ⟨_, rfl⟩
          rw [hp] at HSJ HFJ
          rw [hq] at HTJ HFJ
          have HPZ := hide hp
          have HQZ := hide hq
          clear hp hq
          by_cases g1 : p < 0
          · have hr2 := HFJ.out (.inl g1)
            subst hr2
            go_wp2_with fail
            refine (HSJ.out _ (HS.out.below HB2.out (Nat.le_refl _))).mono ?_
            rintro e w2 ⟨rfl, hb2⟩
            have HB3 := hide (HB2.out.trans (hb2.mono HB2.out.size))
            clear hb2
            go_wp2_with fail
            refine (HTJ.out _ (HS.out.below HB3.out (Nat.le_refl _))).mono ?_
            rintro e w3 ⟨rfl, hb2⟩
            have HB4 := hide (HB3.out.trans (hb2.mono HB3.out.size))
            clear hb2
            go_wp2_with fail
            go_ret
            exact ⟨rfl, HB4.out⟩
          · by_cases g2 : 0 < q
            · have hr2 := HFJ.out (.inr g2)
              subst hr2
              go_wp2_with fail
              refine (HSJ.out _ (HS.out.below HB2.out (Nat.le_refl _))).mono ?_
              rintro e w2 ⟨rfl, hb2⟩
              have HB3 := hide (HB2.out.trans (hb2.mono HB2.out.size))
              clear hb2
              go_wp2_with fail
              refine (HTJ.out _ (HS.out.below HB3.out (Nat.le_refl _))).mono ?_
              rintro e w3 ⟨rfl, hb2⟩
              have HB4 := hide (HB3.out.trans (hb2.mono HB3.out.size))
              clear hb2
              go_wp2_with fail
              go_ret
              exact ⟨rfl, HB4.out⟩
            · go_wp2_with fail
              refine (HSJ.out _ (HS.out.below HB2.out (Nat.le_refl _))).mono ?_
              rintro e w2 ⟨rfl, hb2⟩
              have HB3 := hide (HB2.out.trans (hb2.mono HB2.out.size))
              clear hb2
              go_wp2_with fail
              refine (HTJ.out _ (HS.out.below HB3.out (Nat.le_refl _))).mono ?_
              rintro e w3 ⟨rfl, hb2⟩
              have HB4 := hide (HB3.out.trans (hb2.mono HB3.out.size))
              clear hb2
              go_wp2_with fail
              go_roundg (gk - 1)
              case measure => have := HQ2.out; omega
              case rel => exact ⟨j2 + 1, by go_num, by have := HQ2.out; omega, HB4.out, fun i hi => by
  rcases (by omega : i < j2 ∨ i = j2) with h | h
  · exact HR2.out i h
  · subst h; rw [HPZ.out, HQZ.out]; omega⟩
        · have hji2 : ¬ (j2 : Int) < 3 := by omega
          have h3 : j2 = 3 := by omega
          subst h3
          have hr2 := HF0.out HR2.out
          subst hr2
          go_wp2_with fail
          go_ret
          exact ⟨rfl, HB2.out⟩
end Go.Proofs.YthmmgjieppknkaaGreatDoor

namespace Go.Proofs.YthmmgjieppknkaaGreatDoor
open Go.RowKit Go.Shelf Go.Maps MLab
theorem sz_one500 : Sz 500 500 1 := (sz_one (m := 500) (by omega))
theorem MapIs.nodup {P : Program} {k : TypeId} {α : Type} {M : KeyKind P k α} {w : World} {b : Nat} {L : List (α × Rat)} (h : MapIs M w b L) : (L.map (·.1)).Nodup := by
  obtain ⟨_, _, _, _, h, _⟩ := h
  exact h.2
set_option maxRecDepth 100000 in
set_option maxHeartbeats 8000000 in
theorem swaft_any (w : World) (c : Nat → Rat) (n D : Nat) (hn : n ≤ 30) (hc : GrC D n c) (hgv : ∀ W, Std W → Calls Tryz.prog 63 #[.agg #[.string ⟨(RT (c 0)).toArray⟩, .string ⟨(RT (c 1)).toArray⟩, .string ⟨(RT (c 2)).toArray⟩]] W fun e w' => e = .returned (.int .i64 0) ∧ Below W.heap.size W w') (hs : Std w) :
    Calls Tryz.prog 33 #[.agg #[.string ⟨(RT (c 0)).toArray⟩, .string ⟨(RT (c 1)).toArray⟩, .string ⟨(RT (c 2)).toArray⟩], .int .i64 (n : Int)] w fun e w' => e = .returned (.tuple #[.agg #[.string ⟨(RT (modeQ c n 0)).toArray⟩, .string ⟨(RT (modeQ c n 1)).toArray⟩, .string ⟨(RT (modeQ c n 2)).toArray⟩, .string ⟨(RT (modeQ c n 3)).toArray⟩], .int .i64 0]) ∧ Below w.heap.size w w' := by
  have HC := hide hc
  have HGV := hide hgv
  have HS := hide hs
  have HN := hide hn
  have HBG := hide (show ∀ W, Calls Tryz.prog 64 #[.int .i64 0] W (fun e w' => e = .returned (ptV (begunP 0)) ∧ Below W.heap.size W w') from fun W => begun_any W 0)
  have HBG3 := hide (show ∀ W, Calls Tryz.prog 64 #[.int .i64 3] W (fun e w' => e = .returned (.agg #[.int .i64 3, .int .i64 0, .int .i64 1, .int .i64 0]) ∧ Below W.heap.size W w') from fun W => begun_any W 3)
  have hl0 : ¬ (n : Int) < 0 := by omega
  have hl1 : ¬ (30 : Int) < (n : Int) := by omega
  clear hc hgv hs hn
  have hmm := @run_makeMap Tryz.prog
  have HB := allocs_below w [.cells #[.string ⟨(RT (c 0)).toArray⟩, .string ⟨(RT (c 1)).toArray⟩, .string ⟨(RT (c 2)).toArray⟩] 66, .cells #[.string ⟨#[]⟩, .string ⟨#[]⟩, .string ⟨#[]⟩, .string ⟨#[]⟩] 68]
  have K_p : Blk (allocs w [.cells #[.string ⟨(RT (c 0)).toArray⟩, .string ⟨(RT (c 1)).toArray⟩, .string ⟨(RT (c 2)).toArray⟩] 66, .cells #[.string ⟨#[]⟩, .string ⟨#[]⟩, .string ⟨#[]⟩, .string ⟨#[]⟩] 68]) (w.heap.size + 0) 66 #[.string ⟨(RT (c 0)).toArray⟩, .string ⟨(RT (c 1)).toArray⟩, .string ⟨(RT (c 2)).toArray⟩] := allocs_at w [.cells #[.string ⟨(RT (c 0)).toArray⟩, .string ⟨(RT (c 1)).toArray⟩, .string ⟨(RT (c 2)).toArray⟩] 66, .cells #[.string ⟨#[]⟩, .string ⟨#[]⟩, .string ⟨#[]⟩, .string ⟨#[]⟩] 68] 0 rfl
  have K_r : Blk (allocs w [.cells #[.string ⟨(RT (c 0)).toArray⟩, .string ⟨(RT (c 1)).toArray⟩, .string ⟨(RT (c 2)).toArray⟩] 66, .cells #[.string ⟨#[]⟩, .string ⟨#[]⟩, .string ⟨#[]⟩, .string ⟨#[]⟩] 68]) (w.heap.size + 1) 68 #[.string ⟨#[]⟩, .string ⟨#[]⟩, .string ⟨#[]⟩, .string ⟨#[]⟩] := allocs_at w [.cells #[.string ⟨(RT (c 0)).toArray⟩, .string ⟨(RT (c 1)).toArray⟩, .string ⟨(RT (c 2)).toArray⟩] 66, .cells #[.string ⟨#[]⟩, .string ⟨#[]⟩, .string ⟨#[]⟩, .string ⟨#[]⟩] 68] 1 rfl
  unfold allocs at HB K_p K_r
  simp only [List.foldl_cons, List.foldl_nil] at HB K_p K_r
  rw [Nat.add_zero] at K_p
  go_enter Tryz.func33, Tryz.ntmps33
  go_upto_region 1 with (fail)
  generalize ((w.alloc (.cells #[.string ⟨(RT (c 0)).toArray⟩, .string ⟨(RT (c 1)).toArray⟩, .string ⟨(RT (c 2)).toArray⟩] 66)).alloc (.cells #[.string ⟨#[]⟩, .string ⟨#[]⟩, .string ⟨#[]⟩, .string ⟨#[]⟩] 68)) = w0 at *
  replace K_p := hide K_p
  replace K_r := hide K_r
  replace HB := hide HB
  have p0 := (Blk.cell K_p.out 0).trans (rfl : _ = some (Value.string ⟨(RT (c 0)).toArray⟩))
  have p1 := (Blk.cell K_p.out 1).trans (rfl : _ = some (Value.string ⟨(RT (c 1)).toArray⟩))
  have p2 := (Blk.cell K_p.out 2).trans (rfl : _ = some (Value.string ⟨(RT (c 2)).toArray⟩))
  go_wp2_with fail
  refine (HGV.out _ (HS.out.below HB.out (Nat.le_refl _))).mono ?_
  rintro e w1 ⟨rfl, hb⟩
  clear p0 p1 p2
  replace K_p := hide (Blk.below K_p.out hb (Blk.lt K_p.out))
  replace K_r := hide (Blk.below K_r.out hb (Blk.lt K_r.out))
  replace HB := hide (HB.out.trans (hb.mono HB.out.size))
  clear hb
  clear HGV
  go_wp2_with fail
  have hm0 := MapIs.made ptKind w1
  have hpb := Blk.lt K_p.out
  have hrb := Blk.lt K_r.out
  replace K_p := K_p.out.alloc (.map #[] 0)
  replace K_r := K_r.out.alloc (.map #[] 0)
  replace HB := HB.out.alloc HB.out.size (.map #[] 0)
  generalize w1.alloc (.map #[] 0) = w2 at *
  replace K_p := hide K_p
  replace K_r := hide K_r
  replace HB := hide HB
  have HM0 := hide hm0
  clear hm0
  refine (HBG.out _).mono ?_
  rintro e w3 ⟨rfl, hb⟩
  have HM1 := hide (HM0.out.below hb)
  replace K_p := hide (Blk.below K_p.out hb (Blk.lt K_p.out))
  replace K_r := hide (Blk.below K_r.out hb (Blk.lt K_r.out))
  replace HB := hide (HB.out.trans (hb.mono HB.out.size))
  clear hb
  clear HM0 HBG
  go_wp2_with (first | (refine wpList_ins rfl _ _ _ 121 rfl Tryz.underlying121 rfl HM1.out (begunP 0) (okP_begun (by omega)) rfl 1 (by show _ = Value.string ⟨(RT 1).toArray⟩; rw [RT_one]; rfl) (by simp) ?_; intro w4 hm4 hg4 hz4))
  have HM4 := hide hm4
  replace K_p := hide (Blk.grown K_p.out hg4 (by  simp; omega))
  replace K_r := hide (Blk.grown K_r.out hg4 (by  simp; omega))
  replace HB := hide (HB.out.grown hg4 HB.out.size (fun k e => by  simp at e; omega))
  clear hm4 hg4 hz4 HM1
  have HBN := hide (show w.heap.size + 2 ≤ w1.heap.size by omega)
  clear hpb hrb
  go_wp2_with fail
  go_loopg [7, 38] n (fun z nv iv wr => ∃ (k bn : Nat) (L : List (Pt × Rat)), iv = .int .i64 (k : Int) ∧ z + k = n ∧ nv = .map (some bn) ∧ NowI D c k L ∧ MapIs ptKind wr bn L ∧ w.heap.size + 2 ≤ bn ∧ Blk wr (w.heap.size) 66 #[.string ⟨(RT (c 0)).toArray⟩, .string ⟨(RT (c 1)).toArray⟩, .string ⟨(RT (c 2)).toArray⟩] ∧ Blk wr (w.heap.size + 1) 68 #[.string ⟨#[]⟩, .string ⟨#[]⟩, .string ⟨#[]⟩, .string ⟨#[]⟩] ∧ Below w.heap.size w wr)
  case atStart => exact ⟨0, _, _, rfl, rfl, rfl, NowI.start D c, HM4.out, HBN.out, K_p.out, K_r.out, HB.out⟩
  case round =>
    clear HM4 HBN K_p K_r HB
    obtain ⟨k, bn, L, rfl, hq, rfl, hnow, hm, hbn, hkp, hkr, hb⟩ := hrel
    obtain ⟨W1, rfl⟩ : ∃ W, W = wr := ⟨_, rfl⟩
    obtain ⟨g0, hg0⟩ : ∃ g : Nat, g = gk := ⟨_, rfl⟩
    have HQ := hide hq
    have HNOW := hide hnow
    have HM := hide hm
    have HBN := hide hbn
    have K_p := hide hkp
    have K_r := hide hkr
    have HB := hide hb
    have HG0 := hide hg0
    have HKN := hide (show k ≤ n by omega)
    clear hq hnow hm hbn hkp hkr hb hg0
    by_cases hlt : k < n
    · have hki : (k : Int) < (n : Int) := by omega
      have HK1 := hide (show k + 1 ≤ n by omega)
      have hm2 := MapIs.made ptKind W1
      have hm1 := HM.out.below ((Below.refl W1.heap.size W1).alloc (Nat.le_refl _) (.map #[] 0))
      have hbb := HM.out.lt
      have HBB := hide hbb
      clear hbb
      go_upto_region 10 with (fail)
      replace K_p := K_p.out.alloc (.map #[] 0)
      replace K_r := K_r.out.alloc (.map #[] 0)
      replace HB := HB.out.alloc HB.out.size (.map #[] 0)
      generalize W1.alloc (.map #[] 0) = w5 at *
      replace K_p := hide K_p
      replace K_r := hide K_r
      replace HB := hide HB
      have HM2 := hide hm2
      have HM5 := hide hm1
      clear hm1 hm2
      go_wp2_with (at_range; refine wpList_rng rfl _ 121 rfl Tryz.underlying121 rfl HM5.out ?_; intro w6 hr6 hb6 hz6)
      (try go_frame)
      have HR6 := hide hr6
      have HM6 := hide (HM2.out.below hb6)
      have HB2 := hide (show W1.heap.size < w5.heap.size from HM2.out.lt)
      replace K_p := hide (Blk.below K_p.out hb6 (Blk.lt K_p.out))
      replace K_r := hide (Blk.below K_r.out hb6 (Blk.lt K_r.out))
      replace HB := hide (HB.out.trans (hb6.mono HB.out.size))
      clear hb6
      clear hr6 hz6 HM2 HM5
      go_loopg [10] L.length (fun z _ wr => ∃ (T M : List (Pt × Rat)), Rngs ptKind wr bn w5.heap.size L T z ∧ MapIs ptKind wr W1.heap.size M ∧ MidI D c k T M ∧ Blk wr (w.heap.size) 66 #[.string ⟨(RT (c 0)).toArray⟩, .string ⟨(RT (c 1)).toArray⟩, .string ⟨(RT (c 2)).toArray⟩] ∧ Blk wr (w.heap.size + 1) 68 #[.string ⟨#[]⟩, .string ⟨#[]⟩, .string ⟨#[]⟩, .string ⟨#[]⟩] ∧ Below w.heap.size w wr)
      case atStart => exact ⟨[], [], HR6.out, HM6.out, MidI.start D c k, K_p.out, K_r.out, HB.out⟩
      case round =>
        clear HR6 HM6 K_p K_r HB
        obtain ⟨T, M, hrg, hm, hmid, hkp, hkr, hb⟩ := hrel
        obtain ⟨W2, rfl⟩ : ∃ W, W = wr := ⟨_, rfl⟩
        have HRG := hide hrg
        have HMM := hide hm
        have HMID := hide hmid
        have K_p := hide hkp
        have K_r := hide hkr
        have HB := hide hb
        clear hrg hm hmid hkp hkr hb
        go_wp2_with (at_next; refine wpList_nxt rfl _ rfl rfl HRG.out ?dn ?mr)
        case dn =>
          intro hall
          have HALL := hide hall
          clear hall
          go_wp2_with fail
          go_roundg (g0 - 1)
          case measure => have := HQ.out; have := HG0.out; omega
          case rel => exact ⟨k + 1, _, M, by go_num, by have := HQ.out; have := HG0.out; omega, rfl, mid_done HNOW.out HMID.out HALL.out, HMM.out, by have := HBN.out; have := HBB.out; omega, K_p.out, K_r.out, HB.out⟩
        case mr =>
          intro x v w7 n7 hxL hok hrg7 hlt7 hg7 hz7 hen
          have hmm7 := HMM.out.kept hg7 (by have := HBN.out; have := HBB.out; have := HB2.out; simp; omega)
          have HRL := hide (show w5.heap.size < w7.heap.size from hrg7.lt)
          replace K_p := hide (Blk.grown K_p.out hg7 (by have := HBN.out; have := HBB.out; have := HB2.out; simp; omega))
          replace K_r := hide (Blk.grown K_r.out hg7 (by have := HBN.out; have := HBB.out; have := HB2.out; simp; omega))
          replace HB := hide (HB.out.grown hg7 HB.out.size (fun k e => by have := HBN.out; have := HBB.out; have := HB2.out; simp at e; omega))
          clear HRG HMM
          have HRG := hide hrg7
          have HMM := hide hmm7
          have hT := hrg7.le HNOW.out.nn (g := fun _ => 1) (fun _ => by decide)
          rw [HNOW.out.1.one] at hT
          have HT := hide hT
          have HXL := hide hxL
          have HOK := hide hok
          have HLT7 := hide hlt7
          have HEN := hide hen
          clear hrg7 hmm7 hT hxL hok hlt7 hg7 hz7 hen
          obtain ⟨hz1, hz2, hz3, hz4, hz5, hz6⟩ := mid_first HC.out HK1.out HNOW.out HMID.out HXL.out HT.out HOK.out
          by_cases h3 : x.mode = 3
          · obtain rfl : x = begunP 3 := HOK.out.2.2.2.2.2.2 h3
            clear h3
            have htx : RT (goodQ c (begunP 3)) = [49] := by rw [show (goodQ c (begunP 3)) = 1 from if_pos rfl, RT_one]
            obtain ⟨ty, hty⟩ : ∃ ty, RT (1 - (goodQ c (begunP 3))) = ty := ⟨_, rfl⟩
            have HSB := hide (fun (W : World) (hS : Std W) => subS_any W ⟨#[49]⟩ ⟨([49] : List UInt8).toArray⟩ 1 (goodQ c (begunP 3)) 500 RT_one.symm htx.symm (by omega) (sz_one500) hz2 hS)
            unfold RetRat at HSB
            rw [hty] at HSB
            have HGO1 := hide (show ∀ W, Calls Tryz.prog 57 #[.agg #[.int .i64 3, .int .i64 0, .int .i64 1, .int .i64 0], .bool true] W (fun e w' => e = .returned (ptV (goesP (begunP 3) true)) ∧ Below W.heap.size W w') from fun W => goes_any W (begunP 3) true HOK.out)
            have HGO2 := hide (show ∀ W, Calls Tryz.prog 57 #[.agg #[.int .i64 3, .int .i64 0, .int .i64 1, .int .i64 0], .bool false] W (fun e w' => e = .returned (ptV (goesP (begunP 3) false)) ∧ Below W.heap.size W w') from fun W => goes_any W (begunP 3) false HOK.out)
            have hsh1 : ∀ W, MapIs ptKind W W1.heap.size M → Std W → Calls Tryz.prog 66 #[.map (some W1.heap.size), ptV (goesP (begunP 3) true), .string ⟨(RT v).toArray⟩, .string ⟨([49] : List UInt8).toArray⟩] W (fun e w' => e = .returned (.int .i64 0) ∧ (∃ L', AddL M (goesP (begunP 3) true) (v * (goodQ c (begunP 3))) L' ∧ MapIs ptKind w' W1.heap.size L') ∧ W.grownBy w' (some W1.heap.size)) := fun W hM hS => by
              have h := shareP_any W W1.heap.size M (goesP (begunP 3) true) v (goodQ c (begunP 3)) 500 (by omega) hM (okP_goes HOK.out true) hz1 hz2 hz4 hz6 hS
              unfold tv at h
              rw [htx] at h
              exact h
            have HSH1 := hide hsh1
            clear hsh1
            have HSH2 := hide (fun (M1 : List (Pt × Rat)) (ha1 : AddL M (goesP (begunP 3) true) (v * (goodQ c (begunP 3))) M1) => (show ∀ W, MapIs ptKind W W1.heap.size M1 → Std W → Calls Tryz.prog 66 #[.map (some W1.heap.size), ptV (goesP (begunP 3) false), .string ⟨(RT v).toArray⟩, .string ⟨ty.toArray⟩] W (fun e w' => e = .returned (.int .i64 0) ∧ (∃ L', AddL M1 (goesP (begunP 3) false) (v * (1 - (goodQ c (begunP 3)))) L' ∧ MapIs ptKind w' W1.heap.size L') ∧ W.grownBy w' (some W1.heap.size)) from fun W hM hS => by have h := shareP_any W W1.heap.size M1 (goesP (begunP 3) false) v (1 - (goodQ c (begunP 3))) 500 (by omega) hM (okP_goes HOK.out false) hz1 hz3 hz5 (mid_second HC.out HK1.out HNOW.out HMID.out HXL.out HT.out HOK.out ha1) hS; unfold tv at h; rw [hty] at h; exact h))
            have hen2 : (Instr.entry (.pointer (some ⟨w5.heap.size, 0, none⟩))).run Tryz.prog w7 = .ok (.tuple #[.agg #[.int .i64 3, .int .i64 0, .int .i64 1, .int .i64 0], .string ⟨(RT v).toArray⟩]) w7 := HEN.out
            clear hz1 hz2 hz3 hz4 hz5 hz6 htx hty HEN
            go_upto_region 13 with (fail)
            have hbs_x : w.heap.size ≤ w7.heap.size := HB.out.size
            have lt_x_p : w.heap.size < w7.heap.size := Blk.lt K_p.out
            have lt_x_r : (w.heap.size + 1) < w7.heap.size := Blk.lt K_r.out
            replace K_p := K_p.out.alloc (.cells #[.int .i64 3, .int .i64 0, .int .i64 1, .int .i64 0] 105)
            replace K_r := K_r.out.alloc (.cells #[.int .i64 3, .int .i64 0, .int .i64 1, .int .i64 0] 105)
            replace HB := HB.out.alloc HB.out.size (.cells #[.int .i64 3, .int .i64 0, .int .i64 1, .int .i64 0] 105)
            have K_x := Blk.new w7 105 #[.int .i64 3, .int .i64 0, .int .i64 1, .int .i64 0]
            replace HRG := HRG.out.below ((Below.refl w7.heap.size w7).alloc (Nat.le_refl _) (.cells #[.int .i64 3, .int .i64 0, .int .i64 1, .int .i64 0] 105))
            replace HMM := HMM.out.below ((Below.refl w7.heap.size w7).alloc (Nat.le_refl _) (.cells #[.int .i64 3, .int .i64 0, .int .i64 1, .int .i64 0] 105))
            generalize w7.alloc (.cells #[.int .i64 3, .int .i64 0, .int .i64 1, .int .i64 0] 105) = w8 at *
            replace K_p := hide K_p
            replace K_r := hide K_r
            replace K_x := hide K_x
            replace HB := hide HB
            replace HRG := hide HRG
            replace HMM := hide HMM
            clear hen2
            have HBX := hide (show W1.heap.size < w7.heap.size by have := HB2.out; have := HRL.out; omega)
            have x0 := (Blk.cell K_x.out 0).trans (rfl : _ = some (Value.int .i64 3))
            have x1 := (Blk.cell K_x.out 1).trans (rfl : _ = some (Value.int .i64 0))
            have x2 := (Blk.cell K_x.out 2).trans (rfl : _ = some (Value.int .i64 1))
            have x3 := (Blk.cell K_x.out 3).trans (rfl : _ = some (Value.int .i64 0))
            go_upto_region 14 with (fail)
            have SK : ∀ w', Below w8.heap.size w8 w' → Below w8.heap.size w8 w' ∧ w'.cell? ⟨w7.heap.size, 0, none⟩ = some (.int .i64 3) ∧ w'.cell? ⟨w7.heap.size, 1, none⟩ = some (.int .i64 0) ∧ w'.cell? ⟨w7.heap.size, 2, none⟩ = some (.int .i64 1) ∧ w'.cell? ⟨w7.heap.size, 3, none⟩ = some (.int .i64 0) := fun w' h => ⟨h, (bcell h _ _ (block_lt_of_cell x0)).trans x0, (bcell h _ _ (block_lt_of_cell x1)).trans x1, (bcell h _ _ (block_lt_of_cell x2)).trans x2, (bcell h _ _ (block_lt_of_cell x3)).trans x3⟩
            go_region_held3 (fun w' => Below w8.heap.size w8 w' ∧ w'.cell? ⟨w7.heap.size, 0, none⟩ = some (.int .i64 3) ∧ w'.cell? ⟨w7.heap.size, 1, none⟩ = some (.int .i64 0) ∧ w'.cell? ⟨w7.heap.size, 2, none⟩ = some (.int .i64 1) ∧ w'.cell? ⟨w7.heap.size, 3, none⟩ = some (.int .i64 0)) (first | exact SK _ (Below.refl _ _).drew | exact SK _ (Below.refl _ _) | exact SK _ (bel_next (by assumption) (by assumption) (Nat.le_refl _)))
              (first
                | (go_at_call 64; refine (HBG3.out _).mono ?_; rintro e wx ⟨rfl, hbW⟩))
            obtain ⟨hb9, _⟩ : Below w8.heap.size w8 wx ∧ _ := by assumption
            clear x0 x1 x2 x3
            replace K_p := hide (Blk.below K_p.out hb9 (Blk.lt K_p.out))
            replace K_r := hide (Blk.below K_r.out hb9 (Blk.lt K_r.out))
            replace K_x := hide (Blk.below K_x.out hb9 (Blk.lt K_x.out))
            replace HB := hide (HB.out.trans (hb9.mono HB.out.size))
            replace HRG := hide (HRG.out.below hb9)
            replace HMM := hide (HMM.out.below hb9)
            clear hb9
            clear SK
            go_wp2_with fail
            refine (HSB.out _ (HS.out.below HB.out (Nat.le_refl _))).mono ?_
            rintro e w10 ⟨rfl, hb⟩
            replace K_p := hide (Blk.below K_p.out hb (Blk.lt K_p.out))
            replace K_r := hide (Blk.below K_r.out hb (Blk.lt K_r.out))
            replace K_x := hide (Blk.below K_x.out hb (Blk.lt K_x.out))
            replace HB := hide (HB.out.trans (hb.mono HB.out.size))
            replace HRG := hide (HRG.out.below hb)
            replace HMM := hide (HMM.out.below hb)
            clear hb
            clear HSB
            have x0 := (Blk.cell K_x.out 0).trans (rfl : _ = some (Value.int .i64 3))
            have x1 := (Blk.cell K_x.out 1).trans (rfl : _ = some (Value.int .i64 0))
            have x2 := (Blk.cell K_x.out 2).trans (rfl : _ = some (Value.int .i64 1))
            have x3 := (Blk.cell K_x.out 3).trans (rfl : _ = some (Value.int .i64 0))
            go_wp2_with fail
            refine (HGO1.out _).mono ?_
            rintro e w11 ⟨rfl, hb⟩
            clear x0 x1 x2 x3
            replace K_p := hide (Blk.below K_p.out hb (Blk.lt K_p.out))
            replace K_r := hide (Blk.below K_r.out hb (Blk.lt K_r.out))
            replace K_x := hide (Blk.below K_x.out hb (Blk.lt K_x.out))
            replace HB := hide (HB.out.trans (hb.mono HB.out.size))
            replace HRG := hide (HRG.out.below hb)
            replace HMM := hide (HMM.out.below hb)
            clear hb
            clear HGO1
            go_wp2_with fail
            refine (HSH1.out _ HMM.out (HS.out.below HB.out (Nat.le_refl _))).mono ?_
            rintro e w12 ⟨rfl, ⟨M1, ha1, hmm⟩, hg⟩
            have hrg := HRG.out.kept hg (by have := HBN.out; have := HBB.out; have := HB2.out; simp; omega) (by have := HBN.out; have := HBB.out; have := HB2.out; simp; omega)
            replace K_p := hide (Blk.grown K_p.out hg (by have := HBN.out; have := HBB.out; have := HB2.out; have := HBX.out; simp; omega))
            replace K_r := hide (Blk.grown K_r.out hg (by have := HBN.out; have := HBB.out; have := HB2.out; have := HBX.out; simp; omega))
            replace K_x := hide (Blk.grown K_x.out hg (by have := HBN.out; have := HBB.out; have := HB2.out; have := HBX.out; simp; omega))
            replace HB := hide (HB.out.grown hg HB.out.size (fun k e => by have := HBN.out; have := HBB.out; have := HB2.out; have := HBX.out; simp at e; omega))
            replace HRG := hide hrg
            replace HMM := hide hmm
            clear hg hrg hmm
            have x0 := (Blk.cell K_x.out 0).trans (rfl : _ = some (Value.int .i64 3))
            have x1 := (Blk.cell K_x.out 1).trans (rfl : _ = some (Value.int .i64 0))
            have x2 := (Blk.cell K_x.out 2).trans (rfl : _ = some (Value.int .i64 1))
            have x3 := (Blk.cell K_x.out 3).trans (rfl : _ = some (Value.int .i64 0))
            go_wp2_with fail
            refine (HGO2.out _).mono ?_
            rintro e w13 ⟨rfl, hb⟩
            clear x0 x1 x2 x3
            replace K_p := hide (Blk.below K_p.out hb (Blk.lt K_p.out))
            replace K_r := hide (Blk.below K_r.out hb (Blk.lt K_r.out))
            replace K_x := hide (Blk.below K_x.out hb (Blk.lt K_x.out))
            replace HB := hide (HB.out.trans (hb.mono HB.out.size))
            replace HRG := hide (HRG.out.below hb)
            replace HMM := hide (HMM.out.below hb)
            clear hb
            clear HGO2
            go_wp2_with fail
            refine (HSH2.out M1 ha1 _ HMM.out (HS.out.below HB.out (Nat.le_refl _))).mono ?_
            rintro e w14 ⟨rfl, ⟨M2, ha2, hmm⟩, hg⟩
            have hrg := HRG.out.kept hg (by have := HBN.out; have := HBB.out; have := HB2.out; simp; omega) (by have := HBN.out; have := HBB.out; have := HB2.out; simp; omega)
            replace K_p := hide (Blk.grown K_p.out hg (by have := HBN.out; have := HBB.out; have := HB2.out; have := HBX.out; simp; omega))
            replace K_r := hide (Blk.grown K_r.out hg (by have := HBN.out; have := HBB.out; have := HB2.out; have := HBX.out; simp; omega))
            replace K_x := hide (Blk.grown K_x.out hg (by have := HBN.out; have := HBB.out; have := HB2.out; have := HBX.out; simp; omega))
            replace HB := hide (HB.out.grown hg HB.out.size (fun k e => by have := HBN.out; have := HBB.out; have := HB2.out; have := HBX.out; simp at e; omega))
            replace HRG := hide hrg
            replace HMM := hide hmm
            clear hg hrg hmm
            go_wp2_with fail
            go_roundg n7
            case measure => exact HLT7.out
            case rel => exact ⟨T ++ [((begunP 3), v)], M2, HRG.out, HMM.out, mid_step HC.out HNOW.out HMID.out HXL.out HOK.out ha1 ha2, K_p.out, K_r.out, HB.out⟩
          · have hm2 : x.mode ≤ 2 := by have := HOK.out.1; omega
            have hgq : (goodQ c x) = c x.mode := if_neg (fun e => h3 (by rw [e]; rfl))
            have hq3 : ((x.mode : Int) = 3) = False := by simp; omega
            have hxm0 : (0 : Int) ≤ (x.mode : Int) := by omega
            have hxm3 : (x.mode : Int) < 3 := by omega
            obtain ⟨tx, htx⟩ : ∃ tx, RT (goodQ c x) = tx := ⟨_, rfl⟩
            have HPM := hide (show ∀ W, Blk W w.heap.size 66 #[.string ⟨(RT (c 0)).toArray⟩, .string ⟨(RT (c 1)).toArray⟩, .string ⟨(RT (c 2)).toArray⟩] → W.cell? ⟨w.heap.size, x.mode, none⟩ = some (.string ⟨tx.toArray⟩) from fun W K => by rw [← htx, hgq]; rcases (by omega : x.mode = 0 ∨ x.mode = 1 ∨ x.mode = 2) with e | e | e <;> rw [e] <;> exact (Blk.cell K _).trans rfl)
            clear hgq hm2
            obtain ⟨ty, hty⟩ : ∃ ty, RT (1 - (goodQ c x)) = ty := ⟨_, rfl⟩
            have HSB := hide (fun (W : World) (hS : Std W) => subS_any W ⟨#[49]⟩ ⟨(tx : List UInt8).toArray⟩ 1 (goodQ c x) 500 RT_one.symm htx.symm (by omega) (sz_one500) hz2 hS)
            unfold RetRat at HSB
            rw [hty] at HSB
            have HGO1 := hide (show ∀ W, Calls Tryz.prog 57 #[.agg #[.int .i64 (x.mode : Int), .int .i64 (x.run : Int), .int .i64 (x.last : Int), .int .i64 (x.rej : Int)], .bool true] W (fun e w' => e = .returned (ptV (goesP x true)) ∧ Below W.heap.size W w') from fun W => goes_any W x true HOK.out)
            have HGO2 := hide (show ∀ W, Calls Tryz.prog 57 #[.agg #[.int .i64 (x.mode : Int), .int .i64 (x.run : Int), .int .i64 (x.last : Int), .int .i64 (x.rej : Int)], .bool false] W (fun e w' => e = .returned (ptV (goesP x false)) ∧ Below W.heap.size W w') from fun W => goes_any W x false HOK.out)
            have hsh1 : ∀ W, MapIs ptKind W W1.heap.size M → Std W → Calls Tryz.prog 66 #[.map (some W1.heap.size), ptV (goesP x true), .string ⟨(RT v).toArray⟩, .string ⟨(tx : List UInt8).toArray⟩] W (fun e w' => e = .returned (.int .i64 0) ∧ (∃ L', AddL M (goesP x true) (v * (goodQ c x)) L' ∧ MapIs ptKind w' W1.heap.size L') ∧ W.grownBy w' (some W1.heap.size)) := fun W hM hS => by
              have h := shareP_any W W1.heap.size M (goesP x true) v (goodQ c x) 500 (by omega) hM (okP_goes HOK.out true) hz1 hz2 hz4 hz6 hS
              unfold tv at h
              rw [htx] at h
              exact h
            have HSH1 := hide hsh1
            clear hsh1
            have HSH2 := hide (fun (M1 : List (Pt × Rat)) (ha1 : AddL M (goesP x true) (v * (goodQ c x)) M1) => (show ∀ W, MapIs ptKind W W1.heap.size M1 → Std W → Calls Tryz.prog 66 #[.map (some W1.heap.size), ptV (goesP x false), .string ⟨(RT v).toArray⟩, .string ⟨ty.toArray⟩] W (fun e w' => e = .returned (.int .i64 0) ∧ (∃ L', AddL M1 (goesP x false) (v * (1 - (goodQ c x))) L' ∧ MapIs ptKind w' W1.heap.size L') ∧ W.grownBy w' (some W1.heap.size)) from fun W hM hS => by have h := shareP_any W W1.heap.size M1 (goesP x false) v (1 - (goodQ c x)) 500 (by omega) hM (okP_goes HOK.out false) hz1 hz3 hz5 (mid_second HC.out HK1.out HNOW.out HMID.out HXL.out HT.out HOK.out ha1) hS; unfold tv at h; rw [hty] at h; exact h))
            have hen2 : (Instr.entry (.pointer (some ⟨w5.heap.size, 0, none⟩))).run Tryz.prog w7 = .ok (.tuple #[.agg #[.int .i64 (x.mode : Int), .int .i64 (x.run : Int), .int .i64 (x.last : Int), .int .i64 (x.rej : Int)], .string ⟨(RT v).toArray⟩]) w7 := HEN.out
            clear hz1 hz2 hz3 hz4 hz5 hz6 htx hty HEN
            go_upto_region 13 with (fail)
            have hbs_x : w.heap.size ≤ w7.heap.size := HB.out.size
            have lt_x_p : w.heap.size < w7.heap.size := Blk.lt K_p.out
            have lt_x_r : (w.heap.size + 1) < w7.heap.size := Blk.lt K_r.out
            replace K_p := K_p.out.alloc (.cells #[.int .i64 (x.mode : Int), .int .i64 (x.run : Int), .int .i64 (x.last : Int), .int .i64 (x.rej : Int)] 105)
            replace K_r := K_r.out.alloc (.cells #[.int .i64 (x.mode : Int), .int .i64 (x.run : Int), .int .i64 (x.last : Int), .int .i64 (x.rej : Int)] 105)
            replace HB := HB.out.alloc HB.out.size (.cells #[.int .i64 (x.mode : Int), .int .i64 (x.run : Int), .int .i64 (x.last : Int), .int .i64 (x.rej : Int)] 105)
            have K_x := Blk.new w7 105 #[.int .i64 (x.mode : Int), .int .i64 (x.run : Int), .int .i64 (x.last : Int), .int .i64 (x.rej : Int)]
            replace HRG := HRG.out.below ((Below.refl w7.heap.size w7).alloc (Nat.le_refl _) (.cells #[.int .i64 (x.mode : Int), .int .i64 (x.run : Int), .int .i64 (x.last : Int), .int .i64 (x.rej : Int)] 105))
            replace HMM := HMM.out.below ((Below.refl w7.heap.size w7).alloc (Nat.le_refl _) (.cells #[.int .i64 (x.mode : Int), .int .i64 (x.run : Int), .int .i64 (x.last : Int), .int .i64 (x.rej : Int)] 105))
            generalize w7.alloc (.cells #[.int .i64 (x.mode : Int), .int .i64 (x.run : Int), .int .i64 (x.last : Int), .int .i64 (x.rej : Int)] 105) = w8 at *
            replace K_p := hide K_p
            replace K_r := hide K_r
            replace K_x := hide K_x
            replace HB := hide HB
            replace HRG := hide HRG
            replace HMM := hide HMM
            clear hen2
            have HBX := hide (show W1.heap.size < w7.heap.size by have := HB2.out; have := HRL.out; omega)
            have x0 := (Blk.cell K_x.out 0).trans (rfl : _ = some (Value.int .i64 (x.mode : Int)))
            have x1 := (Blk.cell K_x.out 1).trans (rfl : _ = some (Value.int .i64 (x.run : Int)))
            have x2 := (Blk.cell K_x.out 2).trans (rfl : _ = some (Value.int .i64 (x.last : Int)))
            have x3 := (Blk.cell K_x.out 3).trans (rfl : _ = some (Value.int .i64 (x.rej : Int)))
            go_upto_region 14 with (fail)
            have SK : ∀ w', Below w8.heap.size w8 w' → Below w8.heap.size w8 w' ∧ w'.cell? ⟨w7.heap.size, 0, none⟩ = some (.int .i64 (x.mode : Int)) ∧ w'.cell? ⟨w7.heap.size, 1, none⟩ = some (.int .i64 (x.run : Int)) ∧ w'.cell? ⟨w7.heap.size, 2, none⟩ = some (.int .i64 (x.last : Int)) ∧ w'.cell? ⟨w7.heap.size, 3, none⟩ = some (.int .i64 (x.rej : Int)) := fun w' h => ⟨h, (bcell h _ _ (block_lt_of_cell x0)).trans x0, (bcell h _ _ (block_lt_of_cell x1)).trans x1, (bcell h _ _ (block_lt_of_cell x2)).trans x2, (bcell h _ _ (block_lt_of_cell x3)).trans x3⟩
            go_region_held3 (fun w' => Below w8.heap.size w8 w' ∧ w'.cell? ⟨w7.heap.size, 0, none⟩ = some (.int .i64 (x.mode : Int)) ∧ w'.cell? ⟨w7.heap.size, 1, none⟩ = some (.int .i64 (x.run : Int)) ∧ w'.cell? ⟨w7.heap.size, 2, none⟩ = some (.int .i64 (x.last : Int)) ∧ w'.cell? ⟨w7.heap.size, 3, none⟩ = some (.int .i64 (x.rej : Int))) (first | exact SK _ (Below.refl _ _).drew | exact SK _ (Below.refl _ _) | exact SK _ (bel_next (by assumption) (by assumption) (Nat.le_refl _)))
              (first
                | (go_at_call 64; refine (HBG3.out _).mono ?_; rintro e wx ⟨rfl, hbW⟩))
            obtain ⟨hb9, _⟩ : Below w8.heap.size w8 wx ∧ _ := by assumption
            clear x0 x1 x2 x3
            replace K_p := hide (Blk.below K_p.out hb9 (Blk.lt K_p.out))
            replace K_r := hide (Blk.below K_r.out hb9 (Blk.lt K_r.out))
            replace K_x := hide (Blk.below K_x.out hb9 (Blk.lt K_x.out))
            replace HB := hide (HB.out.trans (hb9.mono HB.out.size))
            replace HRG := hide (HRG.out.below hb9)
            replace HMM := hide (HMM.out.below hb9)
            clear hb9
            clear SK
            have x0 := (Blk.cell K_x.out 0).trans (rfl : _ = some (Value.int .i64 (x.mode : Int)))
            have x1 := (Blk.cell K_x.out 1).trans (rfl : _ = some (Value.int .i64 (x.run : Int)))
            have x2 := (Blk.cell K_x.out 2).trans (rfl : _ = some (Value.int .i64 (x.last : Int)))
            have x3 := (Blk.cell K_x.out 3).trans (rfl : _ = some (Value.int .i64 (x.rej : Int)))
            have hpm := HPM.out _ K_p.out
            go_upto_region 16 with (fail)
            clear hpm
            clear x0 x1 x2 x3
            go_wp2_with fail
            refine (HSB.out _ (HS.out.below HB.out (Nat.le_refl _))).mono ?_
            rintro e w10 ⟨rfl, hb⟩
            replace K_p := hide (Blk.below K_p.out hb (Blk.lt K_p.out))
            replace K_r := hide (Blk.below K_r.out hb (Blk.lt K_r.out))
            replace K_x := hide (Blk.below K_x.out hb (Blk.lt K_x.out))
            replace HB := hide (HB.out.trans (hb.mono HB.out.size))
            replace HRG := hide (HRG.out.below hb)
            replace HMM := hide (HMM.out.below hb)
            clear hb
            clear HSB
            have x0 := (Blk.cell K_x.out 0).trans (rfl : _ = some (Value.int .i64 (x.mode : Int)))
            have x1 := (Blk.cell K_x.out 1).trans (rfl : _ = some (Value.int .i64 (x.run : Int)))
            have x2 := (Blk.cell K_x.out 2).trans (rfl : _ = some (Value.int .i64 (x.last : Int)))
            have x3 := (Blk.cell K_x.out 3).trans (rfl : _ = some (Value.int .i64 (x.rej : Int)))
            go_wp2_with fail
            refine (HGO1.out _).mono ?_
            rintro e w11 ⟨rfl, hb⟩
            clear x0 x1 x2 x3
            replace K_p := hide (Blk.below K_p.out hb (Blk.lt K_p.out))
            replace K_r := hide (Blk.below K_r.out hb (Blk.lt K_r.out))
            replace K_x := hide (Blk.below K_x.out hb (Blk.lt K_x.out))
            replace HB := hide (HB.out.trans (hb.mono HB.out.size))
            replace HRG := hide (HRG.out.below hb)
            replace HMM := hide (HMM.out.below hb)
            clear hb
            clear HGO1
            go_wp2_with fail
            refine (HSH1.out _ HMM.out (HS.out.below HB.out (Nat.le_refl _))).mono ?_
            rintro e w12 ⟨rfl, ⟨M1, ha1, hmm⟩, hg⟩
            have hrg := HRG.out.kept hg (by have := HBN.out; have := HBB.out; have := HB2.out; simp; omega) (by have := HBN.out; have := HBB.out; have := HB2.out; simp; omega)
            replace K_p := hide (Blk.grown K_p.out hg (by have := HBN.out; have := HBB.out; have := HB2.out; have := HBX.out; simp; omega))
            replace K_r := hide (Blk.grown K_r.out hg (by have := HBN.out; have := HBB.out; have := HB2.out; have := HBX.out; simp; omega))
            replace K_x := hide (Blk.grown K_x.out hg (by have := HBN.out; have := HBB.out; have := HB2.out; have := HBX.out; simp; omega))
            replace HB := hide (HB.out.grown hg HB.out.size (fun k e => by have := HBN.out; have := HBB.out; have := HB2.out; have := HBX.out; simp at e; omega))
            replace HRG := hide hrg
            replace HMM := hide hmm
            clear hg hrg hmm
            have x0 := (Blk.cell K_x.out 0).trans (rfl : _ = some (Value.int .i64 (x.mode : Int)))
            have x1 := (Blk.cell K_x.out 1).trans (rfl : _ = some (Value.int .i64 (x.run : Int)))
            have x2 := (Blk.cell K_x.out 2).trans (rfl : _ = some (Value.int .i64 (x.last : Int)))
            have x3 := (Blk.cell K_x.out 3).trans (rfl : _ = some (Value.int .i64 (x.rej : Int)))
            go_wp2_with fail
            refine (HGO2.out _).mono ?_
            rintro e w13 ⟨rfl, hb⟩
            clear x0 x1 x2 x3
            replace K_p := hide (Blk.below K_p.out hb (Blk.lt K_p.out))
            replace K_r := hide (Blk.below K_r.out hb (Blk.lt K_r.out))
            replace K_x := hide (Blk.below K_x.out hb (Blk.lt K_x.out))
            replace HB := hide (HB.out.trans (hb.mono HB.out.size))
            replace HRG := hide (HRG.out.below hb)
            replace HMM := hide (HMM.out.below hb)
            clear hb
            clear HGO2
            go_wp2_with fail
            refine (HSH2.out M1 ha1 _ HMM.out (HS.out.below HB.out (Nat.le_refl _))).mono ?_
            rintro e w14 ⟨rfl, ⟨M2, ha2, hmm⟩, hg⟩
            have hrg := HRG.out.kept hg (by have := HBN.out; have := HBB.out; have := HB2.out; simp; omega) (by have := HBN.out; have := HBB.out; have := HB2.out; simp; omega)
            replace K_p := hide (Blk.grown K_p.out hg (by have := HBN.out; have := HBB.out; have := HB2.out; have := HBX.out; simp; omega))
            replace K_r := hide (Blk.grown K_r.out hg (by have := HBN.out; have := HBB.out; have := HB2.out; have := HBX.out; simp; omega))
            replace K_x := hide (Blk.grown K_x.out hg (by have := HBN.out; have := HBB.out; have := HB2.out; have := HBX.out; simp; omega))
            replace HB := hide (HB.out.grown hg HB.out.size (fun k e => by have := HBN.out; have := HBB.out; have := HB2.out; have := HBX.out; simp at e; omega))
            replace HRG := hide hrg
            replace HMM := hide hmm
            clear hg hrg hmm
            go_wp2_with fail
            go_roundg n7
            case measure => exact HLT7.out
            case rel => exact ⟨T ++ [(x, v)], M2, HRG.out, HMM.out, mid_step HC.out HNOW.out HMID.out HXL.out HOK.out ha1 ha2, K_p.out, K_r.out, HB.out⟩
    · have hki : ¬ (k : Int) < (n : Int) := by omega
      have hkn : k = n := by have := HKN.out; omega
      subst hkn
      clear K_p
      have hm2 := MapIs.made modeKind W1
      have hm1 := HM.out.below ((Below.refl W1.heap.size W1).alloc (Nat.le_refl _) (.map #[] 0))
      have hbb := HM.out.lt
      have HBB := hide hbb
      clear hbb
      go_upto_region 26 with (fail)
      replace K_r := K_r.out.alloc (.map #[] 0)
      replace HB := HB.out.alloc HB.out.size (.map #[] 0)
      generalize W1.alloc (.map #[] 0) = w5 at *
      replace K_r := hide K_r
      replace HB := hide HB
      have HM2 := hide hm2
      have HM5 := hide hm1
      clear hm1 hm2
      go_wp2_with (at_range; refine wpList_rng rfl _ 121 rfl Tryz.underlying121 rfl HM5.out ?_; intro w6 hr6 hb6 hz6)
      (try go_frame)
      have HR6 := hide hr6
      have HM6 := hide (HM2.out.below hb6)
      have HB2 := hide (show W1.heap.size < w5.heap.size from HM2.out.lt)
      replace K_r := hide (Blk.below K_r.out hb6 (Blk.lt K_r.out))
      replace HB := hide (HB.out.trans (hb6.mono HB.out.size))
      clear hb6
      clear hr6 hz6 HM2 HM5
      go_loopg [16] L.length (fun z _ wr => ∃ (T : List (Pt × Rat)) (M : List (Nat × Rat)), Rngs ptKind wr bn w5.heap.size L T z ∧ MapIs modeKind wr W1.heap.size M ∧ AllI D k T M ∧ Blk wr (w.heap.size + 1) 68 #[.string ⟨#[]⟩, .string ⟨#[]⟩, .string ⟨#[]⟩, .string ⟨#[]⟩] ∧ Below w.heap.size w wr)
      case atStart => exact ⟨[], [], HR6.out, HM6.out, AllI.start D k, K_r.out, HB.out⟩
      case round =>
        clear HR6 HM6 K_r HB
        obtain ⟨T, M, hrg, hm, hall, hkr, hb⟩ := hrel
        obtain ⟨W2, rfl⟩ : ∃ W, W = wr := ⟨_, rfl⟩
        have HRG := hide hrg
        have HMM := hide hm
        have HALL := hide hall
        have K_r := hide hkr
        have HB := hide hb
        clear hrg hm hall hkr hb
        go_wp2_with (at_next; refine wpList_nxt rfl _ rfl rfl HRG.out ?dn ?mr)
        case dn =>
          intro hall
          have HTL := hide hall
          have HBW := hide (show W1.heap.size < W2.heap.size from HMM.out.lt)
          clear hall HRG
          go_upto_region 33 with (fail)
          have hbs_o : w.heap.size ≤ W2.heap.size := HB.out.size
          have lt_o_r : (w.heap.size + 1) < W2.heap.size := Blk.lt K_r.out
          replace K_r := K_r.out.alloc (.cells #[.string ⟨#[48]⟩, .string ⟨#[48]⟩, .string ⟨#[48]⟩, .string ⟨#[48]⟩] 68)
          replace HB := HB.out.alloc HB.out.size (.cells #[.string ⟨#[48]⟩, .string ⟨#[48]⟩, .string ⟨#[48]⟩, .string ⟨#[48]⟩] 68)
          have K_o := Blk.new W2 68 #[.string ⟨#[48]⟩, .string ⟨#[48]⟩, .string ⟨#[48]⟩, .string ⟨#[48]⟩]
          replace HMM := HMM.out.below ((Below.refl W2.heap.size W2).alloc (Nat.le_refl _) (.cells #[.string ⟨#[48]⟩, .string ⟨#[48]⟩, .string ⟨#[48]⟩, .string ⟨#[48]⟩] 68))
          generalize W2.alloc (.cells #[.string ⟨#[48]⟩, .string ⟨#[48]⟩, .string ⟨#[48]⟩, .string ⟨#[48]⟩] 68) = w8 at *
          replace K_r := hide K_r
          replace K_o := hide K_o
          replace HB := hide HB
          replace HMM := hide HMM
          go_wp2_with (at_range; refine wpList_rng rfl _ 124 rfl Tryz.underlying124 rfl HMM.out ?_; intro w9 hr9 hb9 hz9)
          (try go_frame)
          have HR9 := hide hr9
          have HB3 := hide (show W2.heap.size < w8.heap.size from Blk.lt K_o.out)
          have HB4 := hide (show w.heap.size + 1 < W2.heap.size from lt_o_r)
          replace K_r := hide (Blk.below K_r.out hb9 (Blk.lt K_r.out))
          replace K_o := hide (Blk.below K_o.out hb9 (Blk.lt K_o.out))
          replace HB := hide (HB.out.trans (hb9.mono HB.out.size))
          clear hb9
          clear hr9 hz9
          go_loopg [19] M.length (fun z _ wr => ∃ (S : List (Nat × Rat)) (o : Nat → Rat), Rngs modeKind wr W1.heap.size w8.heap.size M S z ∧ OutI S o ∧ Blk wr W2.heap.size 68 #[.string ⟨(RT (o 0)).toArray⟩, .string ⟨(RT (o 1)).toArray⟩, .string ⟨(RT (o 2)).toArray⟩, .string ⟨(RT (o 3)).toArray⟩] ∧ Blk wr (w.heap.size + 1) 68 #[.string ⟨#[]⟩, .string ⟨#[]⟩, .string ⟨#[]⟩, .string ⟨#[]⟩] ∧ Below w.heap.size w wr)
          case atStart => exact ⟨[], fun _ => 0, HR9.out, OutI.start, by rw [RT_zero]; exact K_o.out, K_r.out, HB.out⟩
          case round =>
            clear HR9 K_o K_r HB HMM
            obtain ⟨S, o, hrg, hou, hko, hkr, hb⟩ := hrel
            obtain ⟨W3, rfl⟩ : ∃ W, W = wr := ⟨_, rfl⟩
            have HRG := hide hrg
            have HOU := hide hou
            have K_o := hide hko
            have K_r := hide hkr
            have HB := hide hb
            clear hrg hou hko hkr hb
            go_wp2_with (at_next; refine wpList_nxt rfl _ rfl rfl HRG.out ?dn2 ?mr2)
            case dn2 =>
              intro hall
              have hov := out_done HNOW.out HALL.out HTL.out HOU.out hall
              have ko := K_o.out
              rw [hov 0, hov 1, hov 2, hov 3] at ko
              clear K_o
              have K_o := hide ko
              clear hall hov ko
              have r0 := (Blk.cell K_r.out 0).trans (rfl : _ = some (Value.string ⟨#[]⟩))
              have rf0 := Blk.frozen K_r.out 0
              have r1 := (Blk.cell K_r.out 1).trans (rfl : _ = some (Value.string ⟨#[]⟩))
              have rf1 := Blk.frozen K_r.out 1
              have r2 := (Blk.cell K_r.out 2).trans (rfl : _ = some (Value.string ⟨#[]⟩))
              have rf2 := Blk.frozen K_r.out 2
              have r3 := (Blk.cell K_r.out 3).trans (rfl : _ = some (Value.string ⟨#[]⟩))
              have rf3 := Blk.frozen K_r.out 3
              have o0 := (Blk.cell K_o.out 0).trans (rfl : _ = some (Value.string ⟨(RT (modeQ c k 0)).toArray⟩))
              have o1 := (Blk.cell K_o.out 1).trans (rfl : _ = some (Value.string ⟨(RT (modeQ c k 1)).toArray⟩))
              have o2 := (Blk.cell K_o.out 2).trans (rfl : _ = some (Value.string ⟨(RT (modeQ c k 2)).toArray⟩))
              have o3 := (Blk.cell K_o.out 3).trans (rfl : _ = some (Value.string ⟨(RT (modeQ c k 3)).toArray⟩))
              go_wp2_with fail
              have rc0 := (Blk.cell ((((K_r.out.set_ 0 (.string ⟨(RT (modeQ c k 0)).toArray⟩)).set_ 1 (.string ⟨(RT (modeQ c k 1)).toArray⟩)).set_ 2 (.string ⟨(RT (modeQ c k 2)).toArray⟩)).set_ 3 (.string ⟨(RT (modeQ c k 3)).toArray⟩)) 0).trans (rfl : _ = some (Value.string ⟨(RT (modeQ c k 0)).toArray⟩))
              have rc1 := (Blk.cell ((((K_r.out.set_ 0 (.string ⟨(RT (modeQ c k 0)).toArray⟩)).set_ 1 (.string ⟨(RT (modeQ c k 1)).toArray⟩)).set_ 2 (.string ⟨(RT (modeQ c k 2)).toArray⟩)).set_ 3 (.string ⟨(RT (modeQ c k 3)).toArray⟩)) 1).trans (rfl : _ = some (Value.string ⟨(RT (modeQ c k 1)).toArray⟩))
              have rc2 := (Blk.cell ((((K_r.out.set_ 0 (.string ⟨(RT (modeQ c k 0)).toArray⟩)).set_ 1 (.string ⟨(RT (modeQ c k 1)).toArray⟩)).set_ 2 (.string ⟨(RT (modeQ c k 2)).toArray⟩)).set_ 3 (.string ⟨(RT (modeQ c k 3)).toArray⟩)) 2).trans (rfl : _ = some (Value.string ⟨(RT (modeQ c k 2)).toArray⟩))
              have rc3 := (Blk.cell ((((K_r.out.set_ 0 (.string ⟨(RT (modeQ c k 0)).toArray⟩)).set_ 1 (.string ⟨(RT (modeQ c k 1)).toArray⟩)).set_ 2 (.string ⟨(RT (modeQ c k 2)).toArray⟩)).set_ 3 (.string ⟨(RT (modeQ c k 3)).toArray⟩)) 3).trans (rfl : _ = some (Value.string ⟨(RT (modeQ c k 3)).toArray⟩))
              exact bodyPost_ret (v := .tuple #[.agg #[.string ⟨(RT (modeQ c k 0)).toArray⟩, .string ⟨(RT (modeQ c k 1)).toArray⟩, .string ⟨(RT (modeQ c k 2)).toArray⟩, .string ⟨(RT (modeQ c k 3)).toArray⟩], .int .i64 0]) (by simp [results, Tryz.results33, go_sem, rc0, rc1, rc2, rc3]) rfl ⟨rfl, ((((HB.out.setCell (p := ⟨(w.heap.size + 1), 0, none⟩) (by show w.heap.size ≤ (w.heap.size + 1); omega) (.string ⟨(RT (modeQ c k 0)).toArray⟩)).setCell (p := ⟨(w.heap.size + 1), 1, none⟩) (by show w.heap.size ≤ (w.heap.size + 1); omega) (.string ⟨(RT (modeQ c k 1)).toArray⟩)).setCell (p := ⟨(w.heap.size + 1), 2, none⟩) (by show w.heap.size ≤ (w.heap.size + 1); omega) (.string ⟨(RT (modeQ c k 2)).toArray⟩)).setCell (p := ⟨(w.heap.size + 1), 3, none⟩) (by show w.heap.size ≤ (w.heap.size + 1); omega) (.string ⟨(RT (modeQ c k 3)).toArray⟩))⟩
            case mr2 =>
              intro a v w10 n10 haM hok hrg10 hlt10 hg10 hz10 hen
              have hrl := hrg10.lt
              replace K_r := hide (Blk.grown K_r.out hg10 (by have := HB3.out; have := HB4.out; simp; omega))
              replace K_o := hide (Blk.grown K_o.out hg10 (by have := HB3.out; have := HB4.out; simp; omega))
              replace HB := hide (HB.out.grown hg10 HB.out.size (fun k e => by have := HB3.out; have := HB4.out; simp at e; omega))
              have hout := out_step HOU.out HRG.out.map.nodup (fun y hy => (HALL.out.2 y hy).nn) haM (hrg10.le (fun y hy => (HALL.out.2 y hy).nn) (ind1_nn a))
              have ha3 : a ≤ 3 := hok
              have HOUT := hide hout
              have HRG10 := hide hrg10
              have HLT10 := hide hlt10
              have hen2 : (Instr.entry (.pointer (some ⟨w8.heap.size, 0, none⟩))).run Tryz.prog w10 = .ok (.tuple #[.int .i64 (a : Int), .string ⟨(RT v).toArray⟩]) w10 := hen
              clear HRG hen hg10 hz10 haM hok hrg10 hlt10 hout hrl
              have ha0 : (0 : Int) ≤ (a : Int) := by omega
              have ha4 : (a : Int) < 4 := by omega
              have hof : w10.frozen? ⟨W2.heap.size, a, none⟩ = false := Blk.frozen K_o.out a
              have hoc : ∃ u, w10.cell? ⟨W2.heap.size, a, none⟩ = some u := by rcases (by omega : a = 0 ∨ a = 1 ∨ a = 2 ∨ a = 3) with rfl | rfl | rfl | rfl <;> exact ⟨_, (Blk.cell K_o.out _).trans rfl⟩
              obtain ⟨u, hou⟩ := hoc
              go_wp2_with fail
              go_roundg n10
              case measure => exact HLT10.out
              case rel => exact ⟨S ++ [(a, v)], _, HRG10.out.kept (only_setCell (only_refl w10 (some W2.heap.size)) (.inl rfl) _) (by have := HB3.out; have := HB4.out; have := HBB.out; have := HBW.out; simp; omega) (by have := HB3.out; have := HB4.out; simp; omega), HOUT.out, by rcases (by omega : a = 0 ∨ a = 1 ∨ a = 2 ∨ a = 3) with rfl | rfl | rfl | rfl <;> exact K_o.out.set_ _ _, K_r.out.far (by show w.heap.size + 1 ≠ W2.heap.size; have := HB3.out; have := HB4.out; omega) _, HB.out.setCell (p := ⟨W2.heap.size, a, none⟩) (by show w.heap.size ≤ W2.heap.size; have := HB3.out; have := HB4.out; omega) _⟩
        case mr =>
          intro x v w7 n7 hxL hok hrg7 hlt7 hg7 hz7 hen
          have hmm7 := HMM.out.kept hg7 (by have := HBN.out; have := HBB.out; have := HB2.out; simp; omega)
          have HRL := hide (show w5.heap.size < w7.heap.size from hrg7.lt)
          replace K_r := hide (Blk.grown K_r.out hg7 (by have := HBN.out; have := HBB.out; have := HB2.out; simp; omega))
          replace HB := hide (HB.out.grown hg7 HB.out.size (fun k e => by have := HBN.out; have := HBB.out; have := HB2.out; simp at e; omega))
          clear HRG HMM
          have HRG := hide hrg7
          have HMM := hide hmm7
          have hT := hrg7.le HNOW.out.nn (g := fun _ => 1) (fun _ => by decide)
          rw [HNOW.out.1.one] at hT
          have HXL := hide hxL
          have HOK := hide hok
          have HLT7 := hide hlt7
          obtain ⟨hz1, hz2, hz3⟩ := all_sz HC.out (Nat.le_refl _) HNOW.out HALL.out hxL hT
          have hsh : ∀ W, MapIs modeKind W W1.heap.size M → Std W → Calls Tryz.prog 67 #[.map (some W1.heap.size), .int .i64 (x.mode : Int), .string ⟨(RT v).toArray⟩, .string ⟨#[49]⟩] W (fun e w' => e = .returned (.int .i64 0) ∧ (∃ L', AddL M x.mode (v * 1) L' ∧ MapIs modeKind w' W1.heap.size L') ∧ W.grownBy w' (some W1.heap.size)) := fun W hM hS => by
            have h := shareM_any W W1.heap.size M x.mode v 1 500 (by omega) hM HOK.out.1 hz1 sz_one500 hz2 hz3 hS
            unfold tv at h
            rw [RT_one] at h
            exact h
          have HSH := hide hsh
          have hen2 : (Instr.entry (.pointer (some ⟨w5.heap.size, 0, none⟩))).run Tryz.prog w7 = .ok (.tuple #[.agg #[.int .i64 (x.mode : Int), .int .i64 (x.run : Int), .int .i64 (x.last : Int), .int .i64 (x.rej : Int)], .string ⟨(RT v).toArray⟩]) w7 := hen
          clear hrg7 hmm7 hT hxL hok hlt7 hg7 hz7 hen hz1 hz2 hz3 hsh
          go_upto_region 29 with (fail)
          have hbs_x : w.heap.size ≤ w7.heap.size := HB.out.size
          have lt_x_r : (w.heap.size + 1) < w7.heap.size := Blk.lt K_r.out
          replace K_r := K_r.out.alloc (.cells #[.int .i64 (x.mode : Int), .int .i64 (x.run : Int), .int .i64 (x.last : Int), .int .i64 (x.rej : Int)] 105)
          replace HB := HB.out.alloc HB.out.size (.cells #[.int .i64 (x.mode : Int), .int .i64 (x.run : Int), .int .i64 (x.last : Int), .int .i64 (x.rej : Int)] 105)
          have K_x := Blk.new w7 105 #[.int .i64 (x.mode : Int), .int .i64 (x.run : Int), .int .i64 (x.last : Int), .int .i64 (x.rej : Int)]
          replace HRG := HRG.out.below ((Below.refl w7.heap.size w7).alloc (Nat.le_refl _) (.cells #[.int .i64 (x.mode : Int), .int .i64 (x.run : Int), .int .i64 (x.last : Int), .int .i64 (x.rej : Int)] 105))
          replace HMM := HMM.out.below ((Below.refl w7.heap.size w7).alloc (Nat.le_refl _) (.cells #[.int .i64 (x.mode : Int), .int .i64 (x.run : Int), .int .i64 (x.last : Int), .int .i64 (x.rej : Int)] 105))
          generalize w7.alloc (.cells #[.int .i64 (x.mode : Int), .int .i64 (x.run : Int), .int .i64 (x.last : Int), .int .i64 (x.rej : Int)] 105) = w8 at *
          replace K_r := hide K_r
          replace K_x := hide K_x
          replace HB := hide HB
          replace HRG := hide HRG
          replace HMM := hide HMM
          clear hen2
          have HBX := hide (show W1.heap.size < w7.heap.size by have := HB2.out; have := HRL.out; omega)
          have x0 := (Blk.cell K_x.out 0).trans (rfl : _ = some (Value.int .i64 (x.mode : Int)))
          have x1 := (Blk.cell K_x.out 1).trans (rfl : _ = some (Value.int .i64 (x.run : Int)))
          have x2 := (Blk.cell K_x.out 2).trans (rfl : _ = some (Value.int .i64 (x.last : Int)))
          have x3 := (Blk.cell K_x.out 3).trans (rfl : _ = some (Value.int .i64 (x.rej : Int)))
          go_wp2_with fail
          refine (HSH.out _ HMM.out (HS.out.below HB.out (Nat.le_refl _))).mono ?_
          rintro e w9 ⟨rfl, ⟨M1, ha1, hmm⟩, hg⟩
          have hrg := HRG.out.kept hg (by have := HBN.out; have := HBB.out; have := HB2.out; simp; omega) (by have := HBN.out; have := HBB.out; have := HB2.out; simp; omega)
          clear x0 x1 x2 x3
          replace K_r := hide (Blk.grown K_r.out hg (by have := HBN.out; have := HBB.out; have := HB2.out; have := HBX.out; simp; omega))
          replace K_x := hide (Blk.grown K_x.out hg (by have := HBN.out; have := HBB.out; have := HB2.out; have := HBX.out; simp; omega))
          replace HB := hide (HB.out.grown hg HB.out.size (fun k e => by have := HBN.out; have := HBB.out; have := HB2.out; have := HBX.out; simp at e; omega))
          replace HRG := hide hrg
          replace HMM := hide hmm
          clear hg hrg hmm
          go_wp2_with fail
          go_roundg n7
          case measure => exact HLT7.out
          case rel => exact ⟨T ++ [(x, v)], M1, HRG.out, HMM.out, all_step HNOW.out HALL.out HXL.out ha1, K_r.out, HB.out⟩
end Go.Proofs.YthmmgjieppknkaaGreatDoor

namespace Go.Proofs.YthmmgjieppknkaaGreatDoor
open Go.RowKit Go.Maps MLab
theorem ChR.one (w : World) (base : Nat) (hb : base ≤ w.heap.size) : ChR (w.alloc (.cells #[.int .i64 0, .int .i64 0, .slice none 0 0, .int .i64 0, .string ⟨#[49]⟩] 127)) base (.slice (some ⟨w.heap.size, 0, none⟩) 1 1) [(swB 0, 1)] := by
  refine ⟨_, World.ownsRow_lit w _ 1 hb (by unfold maxLen; omega) rfl, fun i x p h => ?_⟩
  have hi : i = 0 := by have := (List.getElem?_eq_some_iff.1 h).1; simp at this; omega
  subst hi
  simp only [List.getElem?_cons_zero, Option.some.injEq, Prod.mk.injEq] at h
  obtain ⟨rfl, rfl⟩ := h
  refine ⟨none, 0, 0, ⟨rfl, rfl, rfl, rfl, ?_⟩, SlL.nil _, NR.zero _ _ _⟩
  show _ = some (Value.string ⟨(RT 1).toArray⟩)
  rw [RT_one]; rfl
end Go.Proofs.YthmmgjieppknkaaGreatDoor

namespace Go.Proofs.YthmmgjieppknkaaGreatDoor
open Go.RowKit Go.Shelf Go.Maps MLab
theorem given_any (w : World) (c : Nat → Rat) (a : Nat → ByteArray) (ha : ∀ j, j < 3 → (a j).data.toList = RT (c j)) (hz : ∀ j, j < 3 → (a j).size < 4000000000) (hF : ∀ j, j < 3 → Fit (c j)) (hs : Std w) :
    Calls Tryz.prog 63 #[.agg #[.string (a 0), .string (a 1), .string (a 2)]] w fun e w' => e = .returned (.int .i64 (badE (fun j => (c j).num.sign) (fun j => ((c j).num - ((c j).den : Int)).sign))) ∧ Below w.heap.size w w' := by
  refine given_rng w a _ _ (fun j hj W hS => ?_) (fun j hj W hS => rsignq_any W (a j) (c j) (ha j hj) (hF j hj) hS) (fun j hj W hS => ?_) hs
  · have h := rcheck_any W (a j) _ rfl (hz j hj) hS
    rw [ha j hj, chkR_RT (hF j hj)] at h
    exact h
  · have h := rcompare_any W (a j) ⟨#[49]⟩ (c j) 1 (ha j hj) RT_one.symm (hF j hj) fit_one hS
    rw [cmp_one (hF j hj)] at h
    exact h
theorem badE_in {c : Nat → Rat} (h : ∀ j, j < 3 → 0 ≤ c j ∧ c j ≤ 1) : badE (fun j => (c j).num.sign) (fun j => ((c j).num - ((c j).den : Int)).sign) = 0 := by
  refine badE_zero fun j hj hb => ?_
  rcases hb with hb | hb
  · exact num_sign.1 hb (h j hj).1
  · exact one_sign.1 hb (h j hj).2
theorem RT_34 : RT (3 / 4) = [51, 47, 52] := by decide +kernel
end Go.Proofs.YthmmgjieppknkaaGreatDoor

namespace Go.Proofs.YthmmgjieppknkaaGreatDoor
open Go.RowKit Go.Shelf Go.Maps MLab
def cOk (p : Int × Int) : Bool := decide (1 ≤ p.1 ∧ p.1 ≤ 12 ∧ 0 ≤ p.2 ∧ p.2 < p.1)
def caseB (S : Nat → Int × Int) : Bool := cOk (S 0) && cOk (S 1) && cOk (S 2)
theorem caseB_bad {S : Nat → Int × Int} {j : Nat} (hj : j < 3) (h : ¬ (1 ≤ (S j).1 ∧ (S j).1 ≤ 12 ∧ 0 ≤ (S j).2 ∧ (S j).2 < (S j).1)) : caseB S = false := by
  have h2 : cOk (S j) = false := decide_eq_false h
  unfold caseB
  rcases (by omega : j = 0 ∨ j = 1 ∨ j = 2) with rfl | rfl | rfl <;> rw [h2] <;> simp
theorem caseB_ok {S : Nat → Int × Int} (h : ∀ j, j < 3 → 1 ≤ (S j).1 ∧ (S j).1 ≤ 12 ∧ 0 ≤ (S j).2 ∧ (S j).2 < (S j).1) : caseB S = true := by
  unfold caseB cOk
  rw [decide_eq_true (h 0 (by omega)), decide_eq_true (h 1 (by omega)), decide_eq_true (h 2 (by omega))]
  rfl
set_option maxRecDepth 100000 in
set_option maxHeartbeats 2000000 in
theorem casch_any (w : World) (S : Nat → Int × Int) :
    Calls Tryz.prog 43 #[schV S] w fun e w' => e = .returned (.bool (caseB S)) ∧ Below w.heap.size w w' := by
  have HI := hide (fun (j : Nat) (hj : j < 3) W => idx_rule S hj W)
  have HBJ := hide (fun j (hj : j < 3) h => caseB_bad (S := S) (j := j) hj h)
  have HOK := hide (fun h => caseB_ok (S := S) h)
  unfold schV at HI
  show Calls Tryz.prog 43 #[.agg #[.int .i64 (S 0).1, .int .i64 (S 0).2, .int .i64 (S 1).1, .int .i64 (S 1).2, .int .i64 (S 2).1, .int .i64 (S 2).2]] w _
  go_enter Tryz.func43, Tryz.ntmps43
  go_wp2_with fail
  go_loopg [7] 3 (fun z iv wr => ∃ j : Nat, iv = .int .i64 (j : Int) ∧ z + j = 3 ∧ Below w.heap.size w wr ∧ ∀ i, i < j → 1 ≤ (S i).1 ∧ (S i).1 ≤ 12 ∧ 0 ≤ (S i).2 ∧ (S i).2 < (S i).1)
  case atStart => exact ⟨0, rfl, rfl, (Below.refl _ _).alloc (Nat.le_refl _) _, fun i hi => absurd hi (by omega)⟩
  case round =>
    obtain ⟨j, rfl, hq, hb, hr⟩ := hrel
    have HQ := hide hq
    have HB := hide hb
    have HR := hide hr
    have hj : j ≤ 3 := by omega
    clear hq hb hr
    by_cases hlt : j < 3
    · have hji : (j : Int) < 3 := by omega
      have hx := HI.out j hlt
      have HBAD := hide (fun h => HBJ.out j hlt h)
      obtain ⟨p, hp⟩ : ∃ p, S j = p := ⟨_, rfl⟩
      obtain ⟨s, a⟩ := p
      rw [hp] at hx HBAD
      simp only at hx
      have HSJ := hide hp
      clear hp
      have hbs := HB.out.size
      by_cases c1 : s < 1
      · have hz := HBAD.out (by omega)
        have HZ := hide hz
        clear hz
        go_wp2_with fail
        go_ret
        rw [HZ.out]
        exact ⟨rfl, HB.out.alloc hbs _⟩
      · by_cases c2 : 12 < s
        · have hz := HBAD.out (by omega)
          have HZ := hide hz
          clear hz
          go_wp2_with fail
          go_ret
          rw [HZ.out]
          exact ⟨rfl, HB.out.alloc hbs _⟩
        · by_cases c3 : a < 0
          · have hz := HBAD.out (by omega)
            have HZ := hide hz
            clear hz
            go_wp2_with fail
            go_ret
            rw [HZ.out]
            exact ⟨rfl, HB.out.alloc hbs _⟩
          · by_cases c4 : s ≤ a
            · have hz := HBAD.out (by omega)
              have HZ := hide hz
              clear hz
              go_wp2_with fail
              go_ret
              rw [HZ.out]
              exact ⟨rfl, HB.out.alloc hbs _⟩
            · go_wp2_with fail
              go_roundg (gk - 1)
              case measure => have := HQ.out; omega
              case rel => exact ⟨j + 1, by go_num, by have := HQ.out; omega, HB.out.alloc hbs _, fun i hi => by
  rcases (by omega : i < j ∨ i = j) with h | h
  · exact HR.out i h
  · subst h; rw [HSJ.out]; exact ⟨by show 1 ≤ s; omega, by show s ≤ 12; omega, by show 0 ≤ a; omega, by show a < s; omega⟩⟩
    · have hji : ¬ (j : Int) < 3 := by omega
      have h3 : j = 3 := by omega
      subst h3
      go_wp2_with fail
      go_ret
      rw [HOK.out HR.out]
      exact ⟨rfl, HB.out⟩
def lotC : Nat → Rat := fun m => if m = 0 then 3 / 4 else 1
theorem lot_0 : modeQ lotC 2 0 = 15 / 16 := by decide +kernel
theorem lot_1 : modeQ lotC 2 1 = 1 / 16 := by decide +kernel
theorem lot_2 : modeQ lotC 2 2 = 0 := by decide +kernel
theorem lot_3 : modeQ lotC 2 3 = 0 := by decide +kernel
theorem lotC_le (m : Nat) : lotC m ≤ 1 := by unfold lotC; split <;> decide +kernel
theorem lotC_nn (m : Nat) : 0 ≤ lotC m := by unfold lotC; split <;> decide +kernel
theorem lot_pow {m : Nat} (h : 2 ≤ m) : 4 ^ 2 ≤ 10 ^ m := Nat.le_trans (show 4 ^ 2 ≤ 10 ^ 2 by decide) (Nat.pow_le_pow_right (by omega) h)
theorem lot_gr : GrC 4 2 lotC := ⟨by decide, fun m hm => ⟨lotC_nn m, by
  rcases (by omega : m = 0 ∨ m = 1 ∨ m = 2) with rfl | rfl | rfl
  · exact ⟨3, by decide +kernel⟩
  · exact ⟨4, by decide +kernel⟩
  · exact ⟨4, by decide +kernel⟩⟩, lotC_le, lotC_nn, lot_pow (m := 499) (by omega)⟩
theorem RT_1516 : RT (15 / 16) = [49, 53, 47, 49, 54] := by decide +kernel
theorem RT_116 : RT (1 / 16) = [49, 47, 49, 54] := by decide +kernel
theorem fit_34 : Fit (3 / 4 : Rat) := (show Sz 1 1 (3 / 4 : Rat) from by unfold Sz; decide +kernel).fit (by omega) (by omega)
theorem lot_RT (m : Nat) : RT (lotC m) = if m = 0 then [51, 47, 52] else [49] := by
  unfold lotC
  split
  · exact RT_34
  · exact RT_one
theorem lot_given (w : World) (hs : Std w) : Calls Tryz.prog 63 #[.agg #[.string ⟨#[51, 47, 52]⟩, .string ⟨#[49]⟩, .string ⟨#[49]⟩]] w fun e w' => e = .returned (.int .i64 0) ∧ Below w.heap.size w w' := by
  have h := given_any w lotC (fun m => if m = 0 then ⟨#[51, 47, 52]⟩ else ⟨#[49]⟩) (fun j hj => by rw [lot_RT]; by_cases h0 : j = 0 <;> simp [h0]) (fun j hj => by by_cases h0 : j = 0 <;> simp [h0] <;> decide) (fun j hj => by
    unfold lotC
    split
    · exact fit_34
    · exact fit_one) hs
  rw [badE_in (fun j hj => ⟨lotC_nn j, lotC_le j⟩)] at h
  exact h
theorem lot_after (w : World) (hs : Std w) : Calls Tryz.prog 33 #[.agg #[.string ⟨#[51, 47, 52]⟩, .string ⟨#[49]⟩, .string ⟨#[49]⟩], .int .i64 2] w fun e w' => e = .returned (.tuple #[.agg #[.string ⟨#[49, 53, 47, 49, 54]⟩, .string ⟨#[49, 47, 49, 54]⟩, .string ⟨#[48]⟩, .string ⟨#[48]⟩], .int .i64 0]) ∧ Below w.heap.size w w' := by
  have e1 : RT (lotC 0) = [51, 47, 52] := RT_34
  have e2 : RT (lotC 1) = [49] := RT_one
  have e3 : RT (lotC 2) = [49] := RT_one
  have h := swaft_any w lotC 2 4 (by omega) lot_gr
  rw [e1, e2, e3, lot_0, lot_1, lot_2, lot_3, RT_1516, RT_116, RT_zero] at h
  exact h (fun W hS => lot_given W hS) hs
theorem acc_34 : accQ 1 (4 - 1) 1 0 = 3 / 4 := by decide +kernel
theorem lot_acc (w : World) (hs : Std w) : Calls Tryz.prog 77 #[.agg #[.int .i64 1, .int .i64 0], .int .i64 4, .int .i64 1] w fun e w' => e = .returned (.tuple #[.string ⟨#[51, 47, 52]⟩, .int .i64 0]) ∧ Below w.heap.size w w' := by
  refine (plAccept_any w 1 0 4 1 (by omega) (by omega) (by omega) (by omega) (by omega) hs).mono ?_
  rintro e w' ⟨h, hb⟩
  unfold RetRat at h
  rw [acc_34, RT_34] at h
  exact ⟨h, hb⟩
set_option maxRecDepth 100000 in
set_option maxHeartbeats 2000000 in
theorem clots_any (w : World) (hs : Std w) : Calls Tryz.prog 44 #[] w fun e w' => e = .returned (.bool true) ∧ Below w.heap.size w w' := by
  have HS := hide hs
  have HB := hide (Below.refl w.heap.size w)
  have HA := hide (fun W hS => lot_acc W hS)
  have HF := hide (fun W hS => lot_after W hS)
  clear hs
  go_enter Tryz.func44, Tryz.ntmps44
  go_wp2_with fail
  refine (HA.out _ (HS.out.below HB.out (Nat.le_refl _))).mono ?_
  rintro e w1 ⟨rfl, hb⟩
  replace HB := hide (HB.out.trans (hb.mono HB.out.size))
  clear hb
  go_wp2_with fail
  refine (HF.out _ (HS.out.below HB.out (Nat.le_refl _))).mono ?_
  rintro e w2 ⟨rfl, hb⟩
  replace HB := hide (HB.out.trans (hb.mono HB.out.size))
  clear hb
  go_upto_region 3 with (fail)
  have hbs_p : w.heap.size ≤ w2.heap.size := HB.out.size
  replace HB := HB.out.alloc HB.out.size (.cells #[.string ⟨#[49, 53, 47, 49, 54]⟩, .string ⟨#[49, 47, 49, 54]⟩, .string ⟨#[48]⟩, .string ⟨#[48]⟩] 68)
  have K_p := Blk.new w2 68 #[.string ⟨#[49, 53, 47, 49, 54]⟩, .string ⟨#[49, 47, 49, 54]⟩, .string ⟨#[48]⟩, .string ⟨#[48]⟩]
  generalize w2.alloc (.cells #[.string ⟨#[49, 53, 47, 49, 54]⟩, .string ⟨#[49, 47, 49, 54]⟩, .string ⟨#[48]⟩, .string ⟨#[48]⟩] 68) = w3 at *
  replace K_p := hide K_p
  replace HB := hide HB
  have p0 := (Blk.cell K_p.out 0).trans (rfl : _ = some (Value.string ⟨#[49, 53, 47, 49, 54]⟩))
  have p1 := (Blk.cell K_p.out 1).trans (rfl : _ = some (Value.string ⟨#[49, 47, 49, 54]⟩))
  have p2 := (Blk.cell K_p.out 2).trans (rfl : _ = some (Value.string ⟨#[48]⟩))
  have p3 := (Blk.cell K_p.out 3).trans (rfl : _ = some (Value.string ⟨#[48]⟩))
  go_wp2_with fail
  go_ret
  exact ⟨rfl, HB.out⟩
end Go.Proofs.YthmmgjieppknkaaGreatDoor
