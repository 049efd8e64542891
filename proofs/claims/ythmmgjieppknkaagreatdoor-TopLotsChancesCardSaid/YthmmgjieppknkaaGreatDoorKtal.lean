/- Contracts and plain laws that the statements of this seat share (part Ktal). -/
import Derived.Test.YthmmgjieppknkaaGreatDoorKtaa
import Derived.Test.YthmmgjieppknkaaGreatDoorKtac
import Derived.Test.YthmmgjieppknkaaGreatDoorKtaf
import Derived.Lib.Builder
import Derived.Lib.AppendStr
import Derived.Laws.Externs
import Derived.WalkSmall
import Derived.Lib.AtoiErrMem
import Derived.Deep.RegionWith
namespace Go.Proofs.YthmmgjieppknkaaGreatDoor
open Go.RowKit MLab
abbrev Bld (B b : Nat) (l : List UInt8) (w : World) : Prop := Lib.IsBuilder 243 5 B b (Lib.byteCells l) w
theorem bld_size : (Tryz.prog.info? 243).map (·.size) = some 2 := by kernel_rfl
theorem bld_lies : liesAt Tryz.prog Tryz.prog.depth 243 (2 / Tryz.prog.cellsOf 243) 0 243 1 = true := by kernel_rfl
theorem byte_info : (Tryz.prog.info? 5).map (fun i => (i.zero, i.size, i.bytes)) = some (some (.int .u8 0), 1, 1) := by kernel_rfl
set_option maxHeartbeats 1000000 in
set_option maxRecDepth 100000 in
theorem copyCheck_used (b : Nat) (w : World) (h0 : w.cell? ⟨b, 0, none⟩ = some (.pointer (some ⟨b, 0, none⟩))) :
    Calls Tryz.prog 199 #[.pointer (some ⟨b, 0, none⟩)] w fun e w' => e = .returned (.tuple #[]) ∧ w' = w := by
  obtain ⟨j, hj, _⟩ := Option.map_eq_some_iff.1 bld_size
  go_enter Tryz.func199, Tryz.ntmps199
  go_wp2
  rw [Lib.run_neq_ptr_same w _ Tryz.underlying241 hj]
  go_wp2
  go_end0
  exact ⟨rfl, rfl⟩
set_option maxHeartbeats 1000000 in
set_option maxRecDepth 100000 in
theorem copyCheck_fresh (b : Nat) (w : World) (h0 : w.cell? ⟨b, 0, none⟩ = some (.pointer none)) (hsh : w.shape? b = some (243, 2)) (hfz : w.frozen? ⟨b, 0, none⟩ = false) :
    Calls Tryz.prog 199 #[.pointer (some ⟨b, 0, none⟩)] w fun e w' => e = .returned (.tuple #[]) ∧ w' = w.setCell ⟨b, 0, none⟩ (.pointer (some ⟨b, 0, none⟩)) := by
  obtain ⟨j, hj, hjs⟩ := Option.map_eq_some_iff.1 bld_size
  go_enter Tryz.func199, Tryz.ntmps199
  go_wp2
  rw [Lib.run_to_unsafe w ⟨b, 0, none⟩ Tryz.underlying241 Tryz.underlying267 hj (by rw [hjs]; decide) hsh (Nat.zero_lt_succ 1)]
  simp only [Result.andThen]
  rw [Oper.upon_value]
  go_wp2
  rw [run_callFunc_extern Tryz.func217 (by kernel_rfl) (by kernel_rfl) (by kernel_rfl) (e := Extern.AbiNoEscape.same) (by kernel_rfl)]
  rw [Lib.run_noEscape]
  simp only [Result.andThen]
  rw [Oper.upon_value]
  go_wp2
  rw [Lib.run_from_unsafe w ⟨b, 0, none⟩ Tryz.underlying267 Tryz.underlying241 hj hsh bld_lies]
  simp only [Result.andThen]
  rw [Oper.upon_value]
  go_wp2
  go_end0
  exact ⟨rfl, rfl⟩
theorem copyCheck_any (B b : Nat) (bs : List Value) (w : World) (h : Lib.IsBuilder 243 5 B b bs w) :
    Calls Tryz.prog 199 #[.pointer (some ⟨b, 0, none⟩)] w fun e w' => e = .returned (.tuple #[]) ∧ (Lib.BuilderAt 243 5 B b (.pointer (some ⟨b, 0, none⟩)) bs w' ∧ Below B w w') := by
  rcases h with h | h
  · refine (copyCheck_fresh b w h.cell0 h.shape h.frozen0).mono ?_
    rintro e w' ⟨rfl, rfl⟩
    exact ⟨rfl, h.used _, (Below.refl B w).setCell (p := ⟨b, 0, none⟩) h.1 _⟩
  · refine (copyCheck_used b w h.cell0).mono ?_
    rintro e w' ⟨rfl, rfl⟩
    exact ⟨rfl, h, Below.refl B _⟩
set_option maxHeartbeats 1000000 in
set_option maxRecDepth 100000 in
theorem writeByte_any (B b : Nat) (l : List UInt8) (c : UInt8) (w : World) (h : Bld B b l w) (hlen : l.length + 1 ≤ 140737488355328) (hBw : B ≤ w.heap.size) :
    Calls Tryz.prog 185 #[.pointer (some ⟨b, 0, none⟩), .int .u8 (c.toNat : Int)] w fun e w' => e = .returned .nilIface ∧ Bld B b (l ++ [c]) w' ∧ Below B w w' := by
  obtain ⟨i0, hi, hz0, hz1, hz2⟩ := info_parts byte_info
  go_enter Tryz.func185, Tryz.ntmps185
  go_wp2_with (go_at_call 199; refine (copyCheck_any B b _ _ h).mono ?_)
  rintro e w1 ⟨rfl, h1, hb1⟩
  obtain ⟨hB, v, hbk, hown, hne⟩ := h1
  have c0 : w1.cell? ⟨b, 0, none⟩ = some (.pointer (some ⟨b, 0, none⟩)) := by rw [Lib.cell_of_heap hbk]; rfl
  have c1 : w1.cell? ⟨b, 1, none⟩ = some v := by rw [Lib.cell_of_heap hbk]; rfl
  have hl1 : (Lib.byteCells l).length = l.length := by simp [Lib.byteCells]
  have HL := hide hl1
  clear hl1
  go_wp2_with (at_builtin; refine wpList_append_own _ rfl _ _ 192 rfl B 5 i0 (.int .u8 0) 1 1 Tryz.underlying192 hi hz0 hz1 hz2 rfl (by decide) _ _ _ rfl (hown.alloc _) ⟨w1.heap.size, 0, none⟩ 1 1 [.int .u8 (c.toNat : Int)] rfl rfl ?c1 ?c2 ?c3 ?c4 ?c5 ?_)
  case c1 =>
    intro j u hj
    match j, hj with
    | 0, hj => simp at hj; subst hj; simp [Addr.add]
  case c2 => intro u hu; simp at hu; subst hu; rfl
  case c3 => rw [HL.out]; unfold maxLen; omega
  case c4 => rw [HL.out]; omega
  case c5 => have := hb1.size; simp; omega
  intro v' w2 hown' hgrow _
  have hlt : b < w1.heap.size := by
    rcases Nat.lt_or_ge b w1.heap.size with h' | h'
    · exact h'
    · simp [Array.getElem?_eq_none h'] at hbk
  have hb2 : w2.heap[b]? = some (.cells #[.pointer (some ⟨b, 0, none⟩), v] 243 (0, 0)) := by
    rw [hgrow.block b (by simp; omega) (fun e => hne e.symm), Lib.alloc_old w1 _ b hlt]
    exact hbk
  have d0 : w2.cell? ⟨b, 0, none⟩ = some (.pointer (some ⟨b, 0, none⟩)) := by rw [Lib.cell_of_heap hb2]; rfl
  have d1 : w2.cell? ⟨b, 1, none⟩ = some v := by rw [Lib.cell_of_heap hb2]; rfl
  have f1 : w2.frozen? ⟨b, 1, none⟩ = false := Lib.frozen_of_heap hb2 1
  obtain ⟨g, cap, rfl⟩ : ∃ g cap, v' = .slice (some ⟨g, 0, none⟩) ((Lib.byteCells l).length + 1) cap := by
    rcases hown'.2 with ⟨_, h0⟩ | ⟨g, cap, cur, hv, _⟩
    · omega
    · exact ⟨g, cap, hv⟩
  go_wp2
  go_ret
  refine ⟨rfl, ?_, ?_⟩
  · exact .inr (Lib.BuilderAt.put (T := 243) (e := 5) hB hb2 (bs' := Lib.byteCells (l ++ [c])) (by simpa [Lib.byteCells] using hown') (by decide))
  · exact ((hb1.alloc (by have := hb1.size; omega) _).grown hgrow (by have := hb1.size; simp; omega) (fun k hk => (hown.lt k hk).1)).setCell (p := ⟨b, 1, none⟩) hB _
set_option maxHeartbeats 2000000 in
set_option maxRecDepth 100000 in
theorem writeString_any (B b : Nat) (l m : List UInt8) (s : ByteArray) (hs : s.data.toList = m) (w : World) (h : Bld B b l w) (hlen : l.length + s.size ≤ 140737488355328) (hBw : B ≤ w.heap.size) :
    Calls Tryz.prog 186 #[.pointer (some ⟨b, 0, none⟩), .string s] w fun e w' => e = .returned (.tuple #[.int .i64 s.size, .nilIface]) ∧ Bld B b (l ++ m) w' ∧ Below B w w' := by
  obtain ⟨i0, hi, hz0, hz1, hz2⟩ := info_parts byte_info
  have HS := hide hs
  clear hs
  go_enter Tryz.func186, Tryz.ntmps186
  go_wp2_with (go_at_call 199; refine (copyCheck_any B b _ _ h).mono ?_)
  rintro e w1 ⟨rfl, h1, hb1⟩
  obtain ⟨hB, v, hbk, hown, hne⟩ := h1
  have c0 : w1.cell? ⟨b, 0, none⟩ = some (.pointer (some ⟨b, 0, none⟩)) := by rw [Lib.cell_of_heap hbk]; rfl
  have c1 : w1.cell? ⟨b, 1, none⟩ = some v := by rw [Lib.cell_of_heap hbk]; rfl
  have hl1 : (Lib.byteCells l).length = l.length := by simp [Lib.byteCells]
  have HL := hide hl1
  clear hl1
  go_wp2_with (at_builtin; refine Lib.wpList_append_own_string _ rfl _ _ 192 9 rfl B 5 i0 Tryz.underlying192 Tryz.underlying9 hi hz0 hz1 hz2 _ _ _ rfl hown s rfl ?c3 ?c4 ?c5 ?_)
  case c3 => rw [HL.out]; unfold maxLen; omega
  case c4 => rw [HL.out]; omega
  case c5 => have := hb1.size; omega
  intro v' w2 hown' hgrow _
  have hlt : b < w1.heap.size := by
    rcases Nat.lt_or_ge b w1.heap.size with h' | h'
    · exact h'
    · simp [Array.getElem?_eq_none h'] at hbk
  have hb2 : w2.heap[b]? = some (.cells #[.pointer (some ⟨b, 0, none⟩), v] 243 (0, 0)) := by
    rw [hgrow.block b hlt (fun e => hne e.symm)]
    exact hbk
  have d0 : w2.cell? ⟨b, 0, none⟩ = some (.pointer (some ⟨b, 0, none⟩)) := by rw [Lib.cell_of_heap hb2]; rfl
  have d1 : w2.cell? ⟨b, 1, none⟩ = some v := by rw [Lib.cell_of_heap hb2]; rfl
  have f1 : w2.frozen? ⟨b, 1, none⟩ = false := Lib.frozen_of_heap hb2 1
  obtain ⟨ao, n', cap, rfl⟩ : ∃ ao n' cap, v' = .slice ao n' cap := by
    rcases hown'.2 with ⟨hv, _⟩ | ⟨g, cap, cur, hv, _⟩
    · exact ⟨_, _, _, hv⟩
    · exact ⟨_, _, _, hv⟩
  go_wp2
  go_ret2
  refine ⟨rfl, ?_, ?_⟩
  · have e1 : Lib.byteCells (l ++ m) = Lib.byteCells l ++ Lib.strCells s := by rw [← HS.out]; simp [Lib.byteCells, Lib.strCells]
    exact .inr (Lib.BuilderAt.put (T := 243) (e := 5) hB hb2 (bs' := Lib.byteCells (l ++ m)) (by rw [e1]; simpa [Lib.strCells_length] using hown') (by decide))
  · exact (hb1.grown hgrow (by have := hb1.size; omega) (fun k hk => (hown.lt k hk).1)).setCell (p := ⟨b, 1, none⟩) hB _
theorem builderString_any (B b : Nat) (l : List UInt8) (w : World) (h : Bld B b l w) (hBw : B ≤ w.heap.size) :
    Calls Tryz.prog 187 #[.pointer (some ⟨b, 0, none⟩)] w fun e w' => e = .returned (.string ⟨l.toArray⟩) ∧ Below B w w' := Tryz.Builder_String_any B b l w h hBw
end Go.Proofs.YthmmgjieppknkaaGreatDoor
namespace Go.Proofs.YthmmgjieppknkaaGreatDoor
open Go.RowKit MLab
structure Std (w : World) : Prop where
  tab : Lib.TabIs Tryz.prog w "internal/strconv.uint64pow10" .u64 Lib.pow10Tab
  shp : w.ShapedOpen Tryz.prog
theorem tab_named : Tryz.prog.globalNamed "internal/strconv.uint64pow10" = some 5 := by kernel_rfl
theorem Std.tab_lt {w : World} (h : Std w) : 5 < w.heap.size := by
  have := h.tab
  unfold Lib.TabIs World.var? at this
  rw [tab_named] at this
  simp only [Option.bind_some] at this
  rcases Nat.lt_or_ge 5 w.heap.size with h' | h'
  · exact h'
  · rw [Array.getElem?_eq_none h'] at this; simp at this
theorem Std.below {w w' : World} {B : Nat} (h : Std w) (hb : Below B w w') (hB : w.heap.size ≤ B) : Std w' :=
  ⟨Go.var?_below (hb.mono (B' := w.heap.size) hB) tab_named h.tab_lt h.tab, h.shp.keptBut ((hb.mono (B' := w.heap.size) hB).frame (fun _ => False)) (fun _ hf => hf.elim)⟩
theorem Std.drew {w : World} (h : Std w) : Std w.drew := h.below (Below.refl _ _).drew (Nat.le_refl _)
theorem Std.drewN {w : World} (h : Std w) (n : Nat) : Std (w.drewN n) := h.below (below_drewN (Below.refl _ _) n) (Nat.le_refl _)
theorem owns_below {w w' : World} {base : Nat} {e : TypeId} {size n : Nat} {v : Value} {xs : List Value} (h : w.ownsRow base e size v n xs) (hb : Below w.heap.size w w') : w'.ownsRow base e size v n xs := by
  obtain ⟨h1, h2⟩ := h
  refine ⟨h1, ?_⟩
  rcases h2 with h2 | ⟨g, cap, cur, hv, hg, hh, r⟩
  · exact .inl h2
  · refine .inr ⟨g, cap, cur, hv, hg, ?_, r⟩
    rw [hb.block g (Blk.lt hh)]; exact hh
theorem Bld.below {w w' : World} {B b : Nat} {l : List UInt8} (h : Bld B b l w) (hb : Below w.heap.size w w') : Bld B b l w' := by
  have key : ∀ p, Lib.BuilderAt 243 5 B b p (Lib.byteCells l) w → Lib.BuilderAt 243 5 B b p (Lib.byteCells l) w' := by
    rintro p ⟨h1, v, hv, ho, hn⟩
    exact ⟨h1, v, by rw [hb.block b (Blk.lt hv)]; exact hv, owns_below ho hb, hn⟩
  exact h.imp (key _) (key _)
theorem Bld.drew {w : World} {B b : Nat} {l : List UInt8} (h : Bld B b l w) : Bld B b l w.drew := h.below (Below.refl _ _).drew
theorem grow_below {w : World} (k : Nat) (os : Array Obj) : Below w.heap.size w («Sort».grow (w.drewN k) os) :=
  ⟨rfl, rfl, rfl, by show w.heap.size ≤ (w.heap ++ os).size; simp, fun i hi => by show (w.heap ++ os)[i]? = _; rw [Array.getElem?_append_left hi]⟩
theorem atoi_any (s : ByteArray) (l : List UInt8) (hl : s.data.toList = l) (n : Int) (hlen : l.length ≤ 18) (h : Lib.atoi l = some n) (w : World) :
    Calls Tryz.prog 169 #[.string s] w fun e w' => e = .returned (.tuple #[.int .i64 n, .nilIface]) ∧ Below w.heap.size w w' :=
  (Tryz.strconv_Atoi s n (by rw [Lib.size_eq, hl]; exact hlen) (by rw [hl]; exact h) w).mono fun e w' ⟨he, t, hw⟩ => ⟨he, by subst hw; exact Lib.bytesWorld_below _ _ t⟩
set_option maxRecDepth 100000 in
set_option maxHeartbeats 400000 in
theorem itoa_any (n : Int) (h0 : -9223372036854775808 ≤ n) (h1 : n ≤ 9223372036854775807) (w : World) (hs : Std w) :
    Calls Tryz.prog 161 #[.int .i64 n] w fun e w' => e = .returned (.string ⟨(T n).toArray⟩) ∧ Below w.heap.size w w' :=
  (Tryz.strconv_Itoa n h0 h1 w hs.tab).mono fun e w' ⟨he, k, os, hw⟩ => ⟨he, by subst hw; exact grow_below k os⟩
set_option maxRecDepth 100000 in
theorem of_any (n : Int) (h0 : -9223372036854775808 ≤ n) (h1 : n ≤ 9223372036854775807) (w : World) (hs : Std w) :
    Calls Tryz.prog 129 #[.int .i64 n] w fun e w' => e = .returned (.string ⟨(T n).toArray⟩) ∧ Below w.heap.size w w' := by
  go_enter Tryz.func129, Tryz.ntmps129
  go_wp2_with fail
  refine (itoa_any n h0 h1 w hs).mono ?_
  rintro e w1 ⟨rfl, hb⟩
  go_wp2_with fail
  go_ret
  exact ⟨rfl, hb⟩
end Go.Proofs.YthmmgjieppknkaaGreatDoor

namespace Go.Proofs.YthmmgjieppknkaaGreatDoor
open Go.RowKit MLab
theorem trim_any (s : ByteArray) (hs : s.size ≤ 9223372036854775807) (w : World) :
    Calls Tryz.prog 157 #[.string s, .string ⟨#[48, 49, 50, 51, 52, 53, 54, 55, 56, 57]⟩] w fun e w' => e = .returned (.string ⟨(Lib.trimS s.data.toList [48, 49, 50, 51, 52, 53, 54, 55, 56, 57]).toArray⟩) ∧ Below w.heap.size w w' :=
  Any.strings_Trim_laid Tryz.lays160 (by kernel_rfl) s ⟨#[48, 49, 50, 51, 52, 53, 54, 55, 56, 57]⟩ w hs (by decide) (ascii_of_all (by decide))
theorem getElem_head {g : ByteArray} {m : List UInt8} (hg : g.data.toList = m) (h : 0 < g.size) : m.head? = some (g[0]'h) := by
  rw [← hg, List.head?_eq_getElem?, Array.getElem?_toList]
  exact Array.getElem?_eq_getElem h
set_option maxRecDepth 100000 in
set_option maxHeartbeats 1000000 in
theorem check_any (s : ByteArray) (l : List UInt8) (hl : s.data.toList = l) (hsz : s.size ≤ 9223372036854775807) (w : World) :
    Calls Tryz.prog 126 #[.string s] w fun e w' => e = .returned (.int .i64 (chk l)) ∧ Below w.heap.size w w' := by
  have hsl : s.toList = l := by rw [Lib.toList_data, hl]
  have HL := hide hl
  have HSL := hide hsl
  clear hl hsl
  go_enter Tryz.func126, Tryz.ntmps126
  go_wp2_with fail
  refine (Tryz.strings_TrimPrefix _ _ _).mono ?_
  rintro e w1 ⟨rfl, rfl⟩
  generalize hg : (⟨(Lib.trimPrefix s.data.toList [45]).toArray⟩ : ByteArray) = g
  have hgm : g.data.toList = mag l := by rw [← hg, HL.out, trimPrefix_mag]
  have hgl : g.toList = mag l := by rw [Lib.toList_data, hgm]
  have hgs : g.size = (mag l).length := by rw [Lib.size_eq, hgm]
  have hgz : g.size ≤ 9223372036854775807 := by
    rw [Lib.size_eq, HL.out] at hsz
    rw [hgs]
    unfold mag; split
    · simp at hsz; omega
    · exact hsz
  have HG := hide hgm
  have HGL := hide hgl
  have HGS := hide hgs
  clear hg hgm hgl hgs
  go_wp2_with fail
  · go_ret
    refine ⟨?_, Below.refl _ _⟩
    have h : g.toList = [] := by assumption
    rw [HGL.out] at h
    rw [chk, if_pos (.inl h)]; rfl
  · refine (trim_any _ hgz _).mono ?_
    rintro e w2 ⟨rfl, hb2⟩
    have hne : ¬ g.toList = [] := by assumption
    have hem : g.toList.isEmpty = false := by cases h : g.toList <;> simp_all
    have hrd : (Lib.trimS g.data.toList [48, 49, 50, 51, 52, 53, 54, 55, 56, 57] = []) ↔ digB (mag l) = true := by rw [HG.out]; exact trimS_digits
    generalize hr : (⟨(Lib.trimS g.data.toList [48, 49, 50, 51, 52, 53, 54, 55, 56, 57]).toArray⟩ : ByteArray) = r
    have hrl : r.toList = Lib.trimS g.data.toList [48, 49, 50, 51, 52, 53, 54, 55, 56, 57] := by rw [← hr, Lib.toList_data]
    rw [← hrl] at hrd
    have HR := hide hrd
    have hpos : 0 < g.size := by
      rw [HGS.out]
      rw [HGL.out] at hne
      exact List.length_pos_iff.2 hne
    have hm1 : ¬ mag l = [] := by rw [← HGL.out]; exact hne
    have hhd := getElem_head HG.out hpos
    have HM1 := hide hm1
    have HHD := hide hhd
    clear hr hrl hrd hne hm1 hhd
    by_cases hd : digB (mag l) = true
    · have hr0 : r.toList.isEmpty = true := by rw [HR.out.2 hd]; rfl
      have hr1 : (!r.toList.isEmpty) = false := by rw [hr0]; rfl
      have h1 : ¬ (mag l = [] ∨ digB (mag l) = false) := by rintro (h | h); exact HM1.out h; rw [hd] at h; cases h
      have H1 := hide h1
      clear h1 hd hr0
      by_cases hz : (g[0].toNat : Int) = 48
      · have hh : (mag l).head? = some 48 := by rw [HHD.out]; congr 1; exact UInt8.toNat_inj.1 (by simp; omega)
        by_cases h48 : l = [48]
        · have hs1 : (!(s.toList == [48])) = false := by rw [HSL.out, h48]; rfl
          have hgs : ¬ (1024 : Int) < (g.size : Int) := by rw [HGS.out, h48]; simp [mag]
          have H4 := hide h48
          clear h48
          go_wp2_with fail
          go_ret
          refine ⟨?_, hb2⟩
          rw [H4.out]; rfl
        · have hs1 : (!(s.toList == [48])) = true := by rw [HSL.out]; simpa using h48
          have H4 := hide h48
          have HH := hide hh
          clear h48 hh
          go_wp2_with fail
          go_ret
          refine ⟨?_, hb2⟩
          rw [chk, if_neg H1.out, if_pos ⟨HH.out, H4.out⟩]; rfl
      · have hh : ¬ ((mag l).head? = some 48 ∧ l ≠ [48]) := by
          rintro ⟨h, _⟩; rw [HHD.out] at h; injection h with h; rw [h] at hz; exact hz rfl
        have HH := hide hh
        clear hh
        by_cases hlong : 1024 < g.size
        · have hli : (1024 : Int) < (g.size : Int) := by omega
          go_wp2_with fail
          go_ret
          refine ⟨?_, hb2⟩
          rw [chk, if_neg H1.out, if_neg HH.out, if_pos (by rw [← HGS.out]; exact hlong)]; rfl
        · have hli : ¬ (1024 : Int) < (g.size : Int) := by omega
          go_wp2_with fail
          go_ret
          refine ⟨?_, hb2⟩
          rw [chk, if_neg H1.out, if_neg HH.out, if_neg (by rw [← HGS.out]; exact hlong)]; rfl
    · have hdf : digB (mag l) = false := by cases h : digB (mag l) <;> simp_all
      have hr0 : r.toList.isEmpty = false := by
        cases h : r.toList with
        | nil => exact absurd (HR.out.1 h) hd
        | cons a t => rfl
      have hr1 : (!r.toList.isEmpty) = true := by rw [hr0]; rfl
      have HD := hide hdf
      clear hd hdf hr0
      go_wp2_with fail
      go_ret
      refine ⟨?_, hb2⟩
      rw [chk, if_pos (.inr HD.out)]; rfl
end Go.Proofs.YthmmgjieppknkaaGreatDoor

namespace Go.Proofs.YthmmgjieppknkaaGreatDoor
open Go.RowKit MLab
def hi (d : Nat → Nat) (n j : Nat) : Nat := num (fun t => d (t + j)) (n - j)
theorem hi_step {d : Nat → Nat} {n j : Nat} (h : j < n) : hi d n j = hi d n (j + 1) * 10 ^ 9 + d j := by
  unfold hi
  obtain ⟨m, hm⟩ : ∃ m, n - j = m + 1 := ⟨n - j - 1, by omega⟩
  rw [hm, num_head, show n - (j + 1) = m by omega]
  have : (fun i => (fun t => d (t + j)) (i + 1)) = fun t => d (t + (j + 1)) := by funext i; show d (i + 1 + j) = _; congr 1; omega
  rw [this, W9_eq, Nat.mul_comm]
  simp; omega
theorem hi_zero (d : Nat → Nat) (n : Nat) : hi d n 0 = num d n := rfl
theorem hi_top {d : Nat → Nat} {n : Nat} (h : 1 ≤ n) : hi d n (n - 1) = d (n - 1) := by
  unfold hi
  rw [show n - (n - 1) = 1 by omega]
  simp [num]
theorem hi_pos {d : Nat → Nat} {n : Nat} (h : 1 ≤ n) (hf : d (n - 1) ≠ 0) : ∀ j, j ≤ n - 1 → 1 ≤ hi d n j := by
  intro j hj
  obtain ⟨k, hk⟩ : ∃ k, j + k = n - 1 := ⟨n - 1 - j, by omega⟩
  induction k generalizing j with
  | zero => rw [show j = n - 1 by omega, hi_top h]; omega
  | succ k ih =>
    have h1 := ih (j + 1) (by omega) (by omega)
    rw [hi_step (by omega)]
    exact Nat.le_trans h1 (Nat.le_trans (Nat.le_mul_of_pos_right _ (Nat.pow_pos (by decide))) (Nat.le_add_right _ _))
def sg (l : Bool) : List UInt8 := if l then [45] else []
theorem T_sval {l : Bool} {N : Nat} (h : N ≠ 0) : T (sval l N) = sg l ++ Go.Lib.decDigits N := by
  cases l
  · simp only [sval, sg, Bool.false_eq_true, if_false, List.nil_append]; exact T_nat N
  · simp only [sval, sg, if_true]
    rw [T_neg (by omega)]; simp
theorem pad9 {d : Nat} (h : d < 1000000000) : List.replicate (9 - (Go.Lib.decDigits d).length) 48 ++ Go.Lib.decDigits d = pad 9 d :=
  (pad_dec 9 d (by omega) ((dec_length_le (by omega)).2 (by omega))).symm
theorem dec_len_W9 {N m : Nat} (hm : 1 ≤ m) (h : N < W9 ^ m) : (Go.Lib.decDigits N).length ≤ 9 * m := by
  refine (dec_length_le (by omega)).2 ?_
  rw [Nat.pow_mul]
  exact h
theorem nines (l : List UInt8) : ((⟨#[48, 48, 48, 48, 48, 48, 48, 48, 48]⟩ : ByteArray).extract l.length 9 ++ ⟨l.toArray⟩).data.toList = List.replicate (9 - l.length) 48 ++ l := by
  rw [ByteArray.data_append, Array.toList_append, Lib.extract_data]
  have e : (#[48, 48, 48, 48, 48, 48, 48, 48, 48] : Array UInt8).toList = List.replicate 9 48 := rfl
  show List.take (9 - l.length) (List.drop l.length (#[48, 48, 48, 48, 48, 48, 48, 48, 48] : Array UInt8).toList) ++ l = _
  rw [e, List.drop_replicate, List.take_replicate, Nat.min_self]
set_option maxRecDepth 100000 in
set_option maxHeartbeats 2000000 in
theorem text_any (w : World) (b : Nat) (l : Bool) (n : Nat) (d : Nat → Nat) (hx : Wd w b l n d) (rx : Rt n d) (hs : Std w) :
    Calls Tryz.prog 165 #[.pointer (some ⟨b, 0, none⟩)] w fun e w' => e = .returned (.string ⟨(T (sval l (num d n))).toArray⟩) ∧ Below w.heap.size w w' := by
  have hx1 := hx.cnt
  have hx0 := hx.sgn
  have hbx := hx.lt
  have hn := rx.fits
  have HX := hide hx
  have HR := hide rx
  clear hx rx
  by_cases h0 : n = 0
  · subst h0
    go_enter Tryz.func165, Tryz.ntmps165
    go_wp2_with fail
    go_ret
    refine ⟨?_, Below.refl _ _⟩
    have : sval l (num d 0) = 0 := by cases l <;> simp [sval, num]
    rw [this, T_zero]; rfl
  · have hb : ((n : Int) == 0) = false := by rw [beq_eq_false_iff_ne]; omega
    have hn1 : 1 ≤ n := by omega
    have hl1 : d (n - 1) < 1000000000 := HR.out.lows _
    have hf1 : d (n - 1) ≠ 0 := HR.out.full.resolve_left (by omega)
    go_enter Tryz.func165, Tryz.ntmps165
    go_upto_region 4 with (fail)
    have hw0 : Bld w.heap.size w.heap.size [] (w.alloc (.cells #[.pointer none, .slice none 0 0] 243)) := Lib.fresh_isBuilder _ _ w
    have hb0 : Below w.heap.size w (w.alloc (.cells #[.pointer none, .slice none 0 0] 243)) := (Below.refl _ _).alloc (Nat.le_refl _) _
    generalize (w.alloc (.cells #[.pointer none, .slice none 0 0] 243)) = w0 at *
    have hcs : w0.cell? ⟨b, 0, none⟩ = some (.bool l) := (hb0.cell (p := ⟨b, 0, none⟩) hbx).trans hx0
    have HW0 := hide hw0
    have HB0 := hide hb0
    clear hw0 hb0
    go_upto_if 14 with (fail)
    go_cut [] (fun wc => Bld w.heap.size w.heap.size (sg l) wc ∧ Below w.heap.size w wc)
    case first =>
      cases l
      · go_wp2_with fail
        go_meet
        case rel => exact ⟨HW0.out, HB0.out⟩
      · go_wp2_with fail
        refine (writeByte_any _ _ [] 45 _ HW0.out (by simp) HB0.out.size).mono ?_
        rintro e w1 ⟨rfl, h1, h2⟩
        have H1 := hide h1
        have H2 := hide h2
        clear h1 h2
        go_wp2_with fail
        go_meet
        case rel => exact ⟨H1.out, HB0.out.trans H2.out⟩
    case rest =>
      obtain ⟨hB, hbl⟩ := hcut
      clear HW0 HB0 hcs hx1 hx0
      have hc1 : wc.cell? ⟨b, 1, none⟩ = some (.int .i64 (n : Int)) := (HX.out.below hbl hbx).cnt
      have hc2 : wc.cell? ⟨b, 2 + (n - 1), none⟩ = some (.int .i64 (d (n - 1) : Int)) := (HX.out.below hbl hbx).at_ (by omega)
      have hstd : Std wc := hs.below hbl (Nat.le_refl _)
      have HB := hide hB
      have HBL := hide hbl
      have HSTD := hide hstd
      clear hB hbl hstd
      have ew : IntKind.i64.wrap ((n : Int) - 1) = (n : Int) - 1 := IntWalk.i64_in _ ⟨by omega, by omega⟩
      have e1 : (0 : Int) ≤ (n : Int) - 1 := by omega
      have e2 : (n : Int) - 1 < 232 := by omega
      have e3 : ((n : Int) - 1).toNat = n - 1 := by omega
      go_wp2_with fail
      have hdl : (Go.Lib.decDigits (d (n - 1))).length ≤ 9 := (dec_length_le (by omega)).2 (by omega)
      have hsg : (sg l).length ≤ 1 := by cases l <;> simp [sg]
      have hT : T (d (n - 1) : Int) = Go.Lib.decDigits (d (n - 1)) := T_nat _
      have HT := hide hT
      clear hT
      go_region_with (first
        | (go_at_call 161; refine (itoa_any _ (by omega) (by omega) _ HSTD.out.drew).mono ?_; rintro e w2 ⟨rfl, hb2⟩; rw [HT.out])
        | (go_at_call 186; go_loud (refine (writeString_any w.heap.size w.heap.size (sg l) (Go.Lib.decDigits (d (n - 1))) _ rfl _ (Bld.below (Bld.drew HB.out) hb2) (by rw [Lib.size_eq]; simp; omega) (Nat.le_trans HBL.out.size hb2.size)).mono ?_); rintro e w3 ⟨rfl, hb3, hb4⟩))
      have hW3 : Below w.heap.size w w3 := (HBL.out.trans ((below_drewN (Below.refl _ wc) 1).trans (hb2.mono HBL.out.size))).trans hb4
      have K1 := hide hb3
      have K2 := hide hW3
      clear hb2 hb3 hb4 hW3 HT hdl hc1 hc2 HB HBL HSTD ew e1 e2 e3
      have hc1 : w3.cell? ⟨b, 1, none⟩ = some (.int .i64 (n : Int)) := (HX.out.below K2.out hbx).cnt
      go_wp2_with fail
      go_loopg [4] (n - 1) (fun k i wr => ∃ j : Nat, i = .int .i64 ((j : Int) - 1) ∧ k = j ∧ j ≤ n - 1 ∧ Bld w.heap.size w.heap.size (sg l ++ Go.Lib.decDigits (hi d n j)) wr ∧ Below w.heap.size w wr)
      case atStart => exact ⟨n - 1, by rw [show (n : Int) - 2 = ((n - 1 : Nat) : Int) - 1 by omega], rfl, Nat.le_refl _, by rw [hi_top hn1]; exact K1.out, K2.out⟩
      case round =>
        obtain ⟨j, rfl, hk, hj, hB, hbl⟩ := hrel
        clear hc1
        have HK := hide hk
        have HB := hide hB
        have HBL := hide hbl
        have HSTD := hide (hs.below hbl (Nat.le_refl _))
        clear hk hB hbl
        rcases Nat.eq_zero_or_pos j with hj0 | hj0
        · have hd' : ¬ (1 : Int) ≤ (j : Int) := by omega
          go_wp2_with fail
          refine (builderString_any _ _ _ _ HB.out HBL.out.size).mono ?_
          rintro e w5 ⟨rfl, h5⟩
          have H5 := hide h5
          clear h5
          go_wp2_with fail
          go_ret
          have hN : num d n ≠ 0 := fun e => by have := (num_zero_iff HR.out.full).1 e; omega
          refine ⟨?_, HBL.out.trans H5.out⟩
          rw [T_sval hN, ← hi_zero d n]; rfl
        · have hd' : (1 : Int) ≤ (j : Int) := by omega
          have hc2 : wr.cell? ⟨b, 2 + (j - 1), none⟩ = some (.int .i64 (d (j - 1) : Int)) := (HX.out.below HBL.out hbx).at_ (by omega)
          have hlj : d (j - 1) < 1000000000 := HR.out.lows _
          have hT : T (d (j - 1) : Int) = Go.Lib.decDigits (d (j - 1)) := T_nat _
          have hlen : (Go.Lib.decDigits (d (j - 1))).length ≤ 9 := (dec_length_le (by omega)).2 (by omega)
          have HT := hide hT
          clear hT
          go_wp2_with fail
          refine (itoa_any _ (by omega) (by omega) _ HSTD.out).mono ?_
          rintro e w5 ⟨rfl, h5⟩
          rw [HT.out]
          have H5 := hide h5
          clear h5
          have hse := nines (Go.Lib.decDigits (d (j - 1)))
          rw [pad9 hlj] at hse
          have HSE := hide hse
          clear hse
          have hlb : (sg l ++ Go.Lib.decDigits (hi d n j)).length ≤ 2089 := by
            have h3 := dec_len_W9 (N := hi d n j) (m := n - j) (by omega) (num_lt (fun i => HR.out.lows _) _)
            rw [List.length_append]; omega
          go_wp2_with fail
          refine (writeString_any _ _ _ _ _ HSE.out _ (HB.out.below H5.out) (by rw [Lib.size_eq, HSE.out, pad_length]; omega) (Nat.le_trans HBL.out.size H5.out.size)).mono ?_
          rintro e w6 ⟨rfl, hb6, hb7⟩
          have H6 := hide hb6
          have H7 := hide hb7
          clear hb6 hb7
          go_wp2_with fail
          go_roundg (j - 1)
          case measure => have := HK.out; omega
          case rel =>
            refine ⟨j - 1, by go_num, rfl, by omega, ?_, ?_⟩
            · rw [hi_step (by omega), show j - 1 + 1 = j by omega, dec_pad 9 _ _ (hi_pos hn1 hf1 j hj) (by omega), ← List.append_assoc]; exact H6.out
            · exact (HBL.out.trans (H5.out.mono HBL.out.size)).trans H7.out
end Go.Proofs.YthmmgjieppknkaaGreatDoor
namespace Go.Proofs.YthmmgjieppknkaaGreatDoor
open Go.RowKit MLab
structure ReadInv (D : List UInt8) (r j : Nat) (d : Nat → Nat) : Prop where
  len : r = D.length - 9 * j
  fit : 9 * j < D.length + 9
  lows : Lows d
  beyond : Beyond0 d j
  num : num d j = val (D.drop r)
theorem ReadInv.start (D : List UInt8) : ReadInv D D.length 0 (fun _ => 0) :=
  ⟨by omega, by omega, fun _ => by decide, fun _ _ => rfl, by rw [List.drop_length]; rfl⟩
theorem ReadInv.step {D : List UInt8} {r j : Nat} {d : Nat → Nat} (hD : Dig D) (h : ReadInv D r j d) (hr : 0 < r) {c : List UInt8} (hc : c = (D.take r).drop (r - 9)) :
    ReadInv D (r - 9) (j + 1) (upd d j (val c)) ∧ val c < W9 ∧ Dig c ∧ c ≠ [] ∧ c.length ≤ 9 := by
  have hl := h.len
  have hlen : c.length = min r 9 := by rw [hc, List.length_drop, List.length_take]; omega
  have hdig : Dig c := by rw [hc]; exact (hD.take r).drop _
  have hlt : val c < W9 := Nat.lt_of_lt_of_le (val_lt hdig) (by rw [W9_eq, show 1000000000 = 10 ^ 9 from rfl]; exact Nat.pow_le_pow_right (by omega) (by omega))
  refine ⟨⟨by omega, by omega, h.lows.upd _ hlt, fun i hi => ?_, ?_⟩, hlt, hdig, fun e => ?_, by omega⟩
  · rw [upd_other _ _ (by omega)]; exact h.beyond i (by omega)
  · rw [num_succ, upd_same, num_upd _ _ _ (Nat.le_refl _), h.num]
    have e : D.drop (r - 9) = c ++ D.drop r := by
      rw [hc, ← List.drop_append_of_le_length (by rw [List.length_take]; omega), List.take_append_drop]
    rw [e, val_append, List.length_drop, show D.length - r = 9 * j by omega, Nat.pow_mul, W9_eq]
    rw [show (10 : Nat) ^ 9 = 1000000000 from rfl]; omega
  · rw [e] at hlen; simp at hlen; omega
theorem T_head (z : Int) : ∀ b, (T z).head? = some b → ((b.toNat : Int) == 45) = decide (z < 0) := by
  intro b hb
  by_cases h : z < 0
  · rw [T_head_neg.2 h] at hb
    injection hb with hb
    subst hb
    simp [h]
  · have : b ≠ 45 := fun e => h (T_head_neg.1 (by rw [hb, e]))
    have h1 : ¬ ((b.toNat : Int) = 45) := fun e => this (UInt8.toNat_inj.1 (by simp; omega))
    rw [beq_eq_false_iff_ne.2 h1]
    simp [h]
set_option maxRecDepth 100000 in
set_option maxHeartbeats 2000000 in
theorem read_any (s : ByteArray) (z : Int) (hs : s.data.toList = T z) (hz : z.natAbs < Big) (w : World) :
    Calls Tryz.prog 158 #[.string s] w fun e w' => e = .returned (.pointer (some ⟨w.heap.size, 0, none⟩)) ∧ Below w.heap.size w w' ∧
      ∃ m d, Wd w' w.heap.size (decide (z < 0)) m d ∧ Rt m d ∧ m ≤ 114 ∧ num d m = z.natAbs := by
  have hne : 0 < s.size := by rw [Lib.size_eq, hs]; exact List.length_pos_iff.2 (T_ne z)
  have hbit := T_head z _ (getElem_head hs hne)
  have hbig : (Go.Lib.decDigits z.natAbs).length ≤ 1024 := big_len.2 hz
  have htp : Lib.trimPrefix s.data.toList [45] = Go.Lib.decDigits z.natAbs := by rw [hs, trimPrefix_mag, mag_T]
  have HTP := hide htp
  have HS := hide hs
  have HBIT := hide hbit
  clear hs hz htp hbit
  go_enter Tryz.func158, Tryz.ntmps158
  go_upto_region 3 with (fail)
  have hw0 : Wd (w.alloc (.cells (Tryz.zeroCells221.setIfInBounds 0 (.bool ((s[0].toNat : Int) == 45))) 221)) w.heap.size (decide (z < 0)) 0 (fun _ => 0) := by
    rw [HBIT.out]; exact Wd.newl w _
  have hb0 : Below w.heap.size w (w.alloc (.cells (Tryz.zeroCells221.setIfInBounds 0 (.bool ((s[0].toNat : Int) == 45))) 221)) := (Below.refl _ _).alloc (Nat.le_refl _) _
  generalize (w.alloc (.cells (Tryz.zeroCells221.setIfInBounds 0 (.bool ((s[0].toNat : Int) == 45))) 221)) = w0 at *
  have H0 := hide hw0
  have HB0 := hide hb0
  clear hw0 hb0
  go_wp2_with fail
  refine (Tryz.strings_TrimPrefix _ _ _).mono ?_
  rintro e w1 ⟨rfl, rfl⟩
  generalize hg : (⟨(Lib.trimPrefix s.data.toList [45]).toArray⟩ : ByteArray) = g
  have hgm : g.data.toList = Go.Lib.decDigits z.natAbs := by rw [← hg, HTP.out]
  have HG := hide hgm
  clear hg hgm
  obtain ⟨D, hD⟩ : ∃ D, D = Go.Lib.decDigits z.natAbs := ⟨_, rfl⟩
  have hdig : Dig D := by rw [hD]; exact dec_dig _
  have hval : val D = z.natAbs := by rw [hD, val_dec]
  rw [← hD] at HG hbig
  have HD := hide hdig
  have HV := hide hval
  clear hD hdig hval
  go_wp2_with fail
  go_loopg [3] D.length (fun k t wr => ∃ (g : ByteArray) (r j : Nat) (d : Nat → Nat), t = .string g ∧ k = r ∧ r ≤ D.length ∧ g.data.toList = D.take r ∧ ReadInv D r j d ∧ Wd wr w.heap.size (decide (z < 0)) j d ∧ Below w.heap.size w wr)
  case atStart => exact ⟨g, D.length, 0, fun _ => 0, rfl, rfl, Nat.le_refl _, by rw [HG.out, List.take_length], ReadInv.start D, H0.out, HB0.out⟩
  case round =>
    clear HG H0 HB0
    obtain ⟨g, r, j, d, rfl, hkr, hr, hgr, hI, hW, hB⟩ := hrel
    have hgs : g.size = r := by rw [Lib.size_eq, hgr, List.length_take]; omega
    have hj1 := hI.fit
    have hj2 := hI.len
    have HK := hide hkr
    have HGR := hide hgr
    have HI := hide hI
    have HW := hide hW
    have HB := hide hB
    have HGS := hide hgs
    clear hkr hgr hI hW hB hgs
    rcases Nat.eq_zero_or_pos r with h0 | h0
    · have hd : ¬ (0 : Int) < (g.size : Int) := by rw [HGS.out]; omega
      go_wp2_with fail
      refine (trimmed_any _ _ _ _ _ HW.out (by omega)).mono ?_
      rintro ee w2 ⟨rfl, m1, hm3, hg1, hW1, hfull, hz0⟩
      have K1 := hide hg1
      have K2 := hide hW1
      have K3 := hide hfull
      have K4 := hide hz0
      clear hg1 hW1 hfull hz0
      go_wp2_with fail
      go_ret
      have hbey : Beyond0 d m1 := fun i hi => by
        by_cases him : i < j
        · exact K4.out i hi him
        · exact HI.out.beyond i (by omega)
      refine ⟨rfl, below_only HB.out K1.out (by have := HW.out.lt; omega) (Nat.le_refl _), m1, d, K2.out, ⟨HI.out.lows, hbey, K3.out, by omega⟩, by omega, ?_⟩
      rw [← num_ends hbey j hm3, HI.out.num, h0, List.drop_zero]; exact HV.out
    · have hd : (0 : Int) < (g.size : Int) := by rw [HGS.out]; omega
      have hc1 : wr.cell? ⟨w.heap.size, 1, none⟩ = some (.int .i64 (j : Int)) := HW.out.cnt
      have hc2 : wr.cell? ⟨w.heap.size, 2 + j, none⟩ = some (.int .i64 (d j : Int)) := HW.out.at_ (by omega)
      have hf1 : wr.frozen? ⟨w.heap.size, 1, none⟩ = false := HW.out.frozen _
      have hf2 : wr.frozen? ⟨w.heap.size, 2 + j, none⟩ = false := HW.out.frozen _
      obtain ⟨c, hc⟩ : ∃ c, c = (D.take r).drop (r - 9) := ⟨_, rfl⟩
      obtain ⟨s1, s2, s3, s4, s5⟩ := HI.out.step HD.out h0 hc
      have HC := hide hc
      have S1 := hide s1
      have S3 := hide s3
      have S4 := hide s4
      have s2' : val c < 1000000000 := s2
      clear hc s1 s2 s3 s4
      have hgb : g.size ≤ 1024 := by rw [HGS.out]; omega
      obtain ⟨q, hq, hqr⟩ : ∃ q : Nat, max (0 : Int) ((g.size : Int) - 9) = (q : Int) ∧ q = r - 9 := ⟨r - 9, by rw [HGS.out]; omega, rfl⟩
      have hqs : q ≤ g.size := by rw [HGS.out]; omega
      have hqi : (q : Int) ≤ (g.size : Int) := by omega
      have HQR := hide hqr
      clear hqr
      have hch : (g.extract q g.size).data.toList = c := by
        rw [Lib.extract_data, HGR.out, HGS.out, HQR.out, HC.out]
        exact List.take_of_length_le (by rw [List.length_drop, List.length_take]; omega)
      have hat := atoi_dig S3.out S4.out
      have HCH := hide hch
      have HAT := hide hat
      clear hch hat
      go_wp2_with fail
      have hlt := HW.out.lt
      have hjI : (j : Int) < 232 := by omega
      go_region_with (go_at_call 169; refine (atoi_any _ c HCH.out (val c : Int) (by omega) HAT.out _).mono ?_; rintro e w2 ⟨rfl, hb2⟩; have g1 : w2.cell? ⟨w.heap.size, 2 + j, none⟩ = some (.int .i64 (d j : Int)) := (hb2.cell (p := ⟨w.heap.size, 2 + j, none⟩) hlt).trans hc2; have g2 : w2.frozen? ⟨w.heap.size, 2 + j, none⟩ = false := (hb2.frozen (p := ⟨w.heap.size, 2 + j, none⟩) hlt).trans hf2; have g3 : w2.cell? ⟨w.heap.size, 1, none⟩ = some (.int .i64 (j : Int)) := (hb2.cell (p := ⟨w.heap.size, 1, none⟩) hlt).trans hc1; have g4 : w2.frozen? ⟨w.heap.size, 1, none⟩ = false := (hb2.frozen (p := ⟨w.heap.size, 1, none⟩) hlt).trans hf1)
      all_goals
        have hbb : Below wr.heap.size wr w2 := ((Below.refl _ wr).drew).trans hb2
        have HBB := hide hbb
        clear hbb hb2 hc1 hc2 hf1 hf2
        go_wp2_with fail
        go_roundg (r - 9)
        case measure => have := HK.out; omega
        case rel =>
          refine ⟨g.extract 0 q, r - 9, j + 1, upd d j (val c), rfl, rfl, by omega, ?_, S1.out, ?_, ?_⟩
          · rw [Lib.extract_data, HGR.out, HQR.out, List.drop_zero, List.take_take]
            congr 1; omega
          · exact ((HW.out.below HBB.out hlt).setAt' rfl (by omega) _ rfl).setN' _ (by omega)
          · exact (((HB.out.trans (HBB.out.mono (by omega))).setCell (by show w.heap.size ≤ w.heap.size; omega) _).setCell (by show w.heap.size ≤ w.heap.size; omega) _)
end Go.Proofs.YthmmgjieppknkaaGreatDoor

namespace Go.Proofs.YthmmgjieppknkaaGreatDoor
open Go.RowKit MLab
def lim (z : Int) : List UInt8 × Int := if z.natAbs < Big then (T z, 0) else ([], 11)
theorem lim_ok {z : Int} (h : z.natAbs < Big) : lim z = (T z, 0) := by rw [lim, if_pos h]
theorem lim_no {z : Int} (h : ¬ z.natAbs < Big) : lim z = ([], 11) := by rw [lim, if_neg h]
def RetLim (p : List UInt8 × Int) (e : Ending) : Prop := e = .returned (.tuple #[.string ⟨p.1.toArray⟩, .int .i64 p.2])
theorem T_len19 {n : Int} (h0 : -9223372036854775808 ≤ n) (h1 : n ≤ 9223372036854775807) : (T n).length ≤ 21 := Go.Lib.itoa_length_le n h0 h1
theorem small_big {n : Int} (h0 : -9223372036854775808 ≤ n) (h1 : n ≤ 9223372036854775807) : n.natAbs < Big := by
  refine big_len.1 ?_
  have h2 := T_len19 h0 h1
  rw [T_length] at h2
  omega
theorem len9 {z : Int} (h : (T z).length ≤ 9) : z.natAbs < 1000000000 := by
  have h1 : (Go.Lib.decDigits z.natAbs).length ≤ 9 := by rw [T_length] at h; omega
  exact (dec_length_le (k := 9) (by omega)).1 h1
theorem T_len_big {z : Int} (h : z.natAbs < Big) : (T z).length ≤ 1025 := by
  have := big_len.2 h
  rw [T_length]
  split <;> omega
set_option maxRecDepth 100000 in
set_option maxHeartbeats 1000000 in
theorem limited_any (w : World) (b : Nat) (l : Bool) (n : Nat) (d : Nat → Nat) (z : Int) (hx : Wd w b l n d) (rx : Rt n d) (hz : sval l (num d n) = z) (hs : Std w) :
    Calls Tryz.prog 160 #[.pointer (some ⟨b, 0, none⟩)] w fun e w' => RetLim (lim z) e ∧ Below w.heap.size w w' := by
  have h1 := text_any w b l n d hx rx hs
  rw [hz] at h1
  have hlen : (T z).length ≤ 2089 := by
    have h2 : num d n < W9 ^ n := num_lt rx.lows n
    have hn := rx.fits
    have hzn : z.natAbs = num d n := by rw [← hz]; unfold sval; split <;> omega
    rw [T_length, hzn]
    by_cases h0 : n = 0
    · subst h0; have : num d 0 = 0 := rfl
      rw [this, dec_zero]; simp; split <;> omega
    · have := dec_len_W9 (m := n) (by omega) h2
      split <;> omega
  have hc := chk_T z
  have H1 := hide h1
  have HC := hide hc
  clear h1 hc hx rx hz
  go_enter Tryz.func160, Tryz.ntmps160
  go_wp2_with fail
  refine H1.out.mono ?_
  rintro e w1 ⟨rfl, hb⟩
  have HB := hide hb
  clear hb
  generalize hg : (⟨(T z).toArray⟩ : ByteArray) = g
  have hgd : g.data.toList = T z := by rw [← hg]
  have HG := hide hg
  have HGD := hide hgd
  clear hg hgd
  go_wp2_with fail
  refine (check_any g _ HGD.out (by rw [Lib.size_eq, HGD.out]; omega) _).mono ?_
  rintro e w2 ⟨rfl, hb2⟩
  have HB2 := hide hb2
  clear hb2
  by_cases hzb : z.natAbs < Big
  · rw [HC.out, if_pos hzb]
    have HZ := hide (lim_ok hzb)
    clear hzb
    go_wp2_with fail
    go_ret2
    refine ⟨?_, HB.out.trans (HB2.out.mono HB.out.size)⟩
    rw [HZ.out, RetLim, HG.out]; rfl
  · rw [HC.out, if_neg hzb]
    have HZ := hide (lim_no hzb)
    clear hzb
    go_wp2_with fail
    go_ret2
    refine ⟨?_, HB.out.trans (HB2.out.mono HB.out.size)⟩
    rw [HZ.out, RetLim]; rfl
set_option maxRecDepth 100000 in
set_option maxHeartbeats 1000000 in
theorem sign_any (w : World) (s : ByteArray) (z : Int) (hs : s.data.toList = T z) :
    Calls Tryz.prog 155 #[.string s] w fun e w' => e = .returned (.int .i64 z.sign) ∧ w = w' := by
  have hl : s.toList = T z := by rw [Lib.toList_data, hs]
  have hne : 0 < s.size := by rw [Lib.size_eq, hs]; exact List.length_pos_iff.2 (T_ne z)
  have hbit := T_head z _ (getElem_head hs hne)
  by_cases h0 : z = 0
  · have ht : (s.toList == [48]) = true := by rw [hl, h0, T_zero]; rfl
    subst h0
    clear hs hl hbit
    go_enter Tryz.func155, Tryz.ntmps155
    go_wp2_with fail
    go_ret
    exact ⟨rfl, rfl⟩
  · have ht : (s.toList == [48]) = false := by
      rw [beq_eq_false_iff_ne, hl]; intro e; exact h0 (T_inj (e.trans T_zero.symm))
    by_cases hn : z < 0
    · have hb : ((s[0].toNat : Int) == 45) = true := by rw [hbit]; simpa using hn
      have hsg : z.sign = -1 := Int.sign_eq_neg_one_iff_neg.2 hn
      rw [hsg]
      clear hs hl hbit hsg h0 hn
      go_enter Tryz.func155, Tryz.ntmps155
      go_wp2_with fail
      go_ret
      exact ⟨rfl, rfl⟩
    · have hb : ((s[0].toNat : Int) == 45) = false := by rw [hbit]; simpa using hn
      have hsg : z.sign = 1 := Int.sign_eq_one_iff_pos.2 (by omega)
      rw [hsg]
      clear hs hl hbit hsg h0 hn
      go_enter Tryz.func155, Tryz.ntmps155
      go_wp2_with fail
      go_ret
      exact ⟨rfl, rfl⟩
set_option maxRecDepth 100000 in
set_option maxHeartbeats 1000000 in
theorem result_any (n : Int) (h0 : -9223372036854775808 ≤ n) (h1 : n ≤ 9223372036854775807) (w : World) (hs : Std w) :
    Calls Tryz.prog 153 #[.int .i64 n] w fun e w' => RetLim (lim n) e ∧ Below w.heap.size w w' := by
  have hl := lim_ok (small_big h0 h1)
  have HL := hide hl
  clear hl
  go_enter Tryz.func153, Tryz.ntmps153
  go_wp2_with fail
  refine (of_any n h0 h1 w hs).mono ?_
  rintro e w1 ⟨rfl, hb⟩
  go_wp2_with fail
  go_ret2
  exact ⟨by rw [HL.out]; rfl, hb⟩
def Strs (w : World) (v : Value) (L : List (List UInt8)) : Prop :=
  ∃ (A : Option Addr) (c : Nat), v = .slice A L.length c ∧ (0 < L.length → ∃ b off, A = some ⟨b, off, none⟩ ∧ ∀ i l, L[i]? = some l → ∃ s : ByteArray, w.cell? ⟨b, off + i, none⟩ = some (.string s) ∧ s.data.toList = l)
theorem Strs.below {w w' : World} {v : Value} {L : List (List UInt8)} (h : Strs w v L) (hb : Below w.heap.size w w') : Strs w' v L := by
  obtain ⟨A, c, hv, hc⟩ := h
  refine ⟨A, c, hv, fun h0 => ?_⟩
  obtain ⟨b, off, hA, hcell⟩ := hc h0
  refine ⟨b, off, hA, fun i l hi => ?_⟩
  obtain ⟨s, h1, h2⟩ := hcell i l hi
  have hlt := block_lt_of_cell h1
  exact ⟨s, (hb.cell (p := ⟨b, off + i, none⟩) hlt).trans h1, h2⟩
def chkAll (L : List (List UInt8)) : Int := match L with
  | [] => 0
  | l :: t => if chk l = 0 then chkAll t else chk l
theorem chkAll_skip : ∀ (L : List (List UInt8)) (k : Nat), (∀ i l, i < k → L[i]? = some l → chk l = 0) → chkAll L = chkAll (L.drop k)
  | _, 0, _ => rfl
  | [], k + 1, _ => rfl
  | l :: t, k + 1, h => by
    rw [chkAll, if_pos (h 0 l (by omega) rfl), List.drop_succ_cons]
    exact chkAll_skip t k fun i l' hi hl => h (i + 1) l' (by omega) (by simpa using hl)
set_option maxRecDepth 100000 in
set_option maxHeartbeats 1000000 in
theorem all_any (w : World) (v : Value) (L : List (List UInt8)) (hv : Strs w v L) (hL : L.length ≤ 1000000) (hsz : ∀ l ∈ L, l.length ≤ 9223372036854775807) :
    Calls Tryz.prog 123 #[v] w fun e w' => e = .returned (.int .i64 (chkAll L)) ∧ Below w.heap.size w w' := by
  obtain ⟨A, c, rfl, hc⟩ := id hv
  have HV := hide hv
  have HC := hide hc
  have HSZ := hide hsz
  clear hv hc hsz
  go_enter Tryz.func123, Tryz.ntmps123
  go_wp2_with fail
  go_loopg [8] L.length (fun k i wr => ∃ j : Nat, i = .int .i64 (j : Int) ∧ k + j = L.length ∧ (∀ t l, t < j → L[t]? = some l → chk l = 0) ∧ Below w.heap.size w wr)
  case atStart => exact ⟨0, rfl, rfl, fun t l h => by omega, Below.refl _ _⟩
  case round =>
    obtain ⟨j, rfl, hk, hok, hb⟩ := hrel
    have hj : j ≤ L.length := by omega
    have HK := hide hk
    have HOK := hide hok
    have HB := hide hb
    clear hk hok hb
    by_cases hlt : j < L.length
    · have hji : (j : Int) < (L.length : Int) := by omega
      obtain ⟨b, off, hA, hcell⟩ := HC.out (by omega)
      obtain ⟨s, h1, h2⟩ := hcell j _ (List.getElem?_eq_getElem hlt)
      have hsl : s.size ≤ 9223372036854775807 := by rw [Lib.size_eq, h2]; exact HSZ.out _ (List.getElem_mem hlt)
      have hc1 : wr.cell? ⟨b, off + j, none⟩ = some (.string s) := (HB.out.cell (p := ⟨b, off + j, none⟩) (block_lt_of_cell h1)).trans h1
      have H2 := hide h2
      clear hcell h1 h2
      subst hA
      go_wp2_with fail
      refine (check_any s _ H2.out hsl _).mono ?_
      rintro e w2 ⟨rfl, hb2⟩
      have HB2 := hide hb2
      clear hb2
      by_cases hz : chk L[j] = 0
      · have hz1 : (chk L[j] == 0) = true := by rw [hz]; rfl
        have hz2 : (chk L[j] != 0) = false := by rw [hz]; rfl
        have HZ := hide hz
        clear hz
        go_wp2_with fail
        go_roundg (gk - 1)
        case measure => have := HK.out; omega
        case rel =>
          refine ⟨j + 1, by go_num, by have := HK.out; omega, fun t l ht hl => ?_, HB.out.trans (HB2.out.mono HB.out.size)⟩
          by_cases e : t = j
          · subst e; rw [List.getElem?_eq_getElem hlt] at hl; injection hl with hl; rw [← hl]; exact HZ.out
          · exact HOK.out t l (by omega) hl
      · have hz1 : (chk L[j] == 0) = false := by rw [beq_eq_false_iff_ne]; exact hz
        have hz2 : (chk L[j] != 0) = true := by rw [bne_iff_ne]; exact hz
        have HZ := hide hz
        clear hz
        go_wp2_with fail
        go_ret
        refine ⟨?_, HB.out.trans (HB2.out.mono HB.out.size)⟩
        rw [chkAll_skip L j HOK.out, List.drop_eq_getElem_cons hlt, chkAll, if_neg HZ.out]; rfl
    · have hji : ¬ (j : Int) < (L.length : Int) := by omega
      go_wp2_with fail
      go_ret
      refine ⟨?_, HB.out⟩
      rw [chkAll_skip L j HOK.out, List.drop_of_length_le (by omega)]; rfl
theorem chkAll_two {x y : Int} (hx : x.natAbs < Big) (hy : y.natAbs < Big) : chkAll [T x, T y] = 0 := by
  rw [chkAll, chk_T, if_pos hx, if_pos rfl, chkAll, chk_T, if_pos hy, if_pos rfl]; rfl
theorem strs_two (w : World) (a b : ByteArray) (t : TypeId) : Strs (w.alloc (.cells #[.string a, .string b] t)) (.slice (some ⟨w.heap.size, 0, none⟩) 2 2) [a.data.toList, b.data.toList] := by
  refine ⟨_, 2, rfl, fun _ => ⟨w.heap.size, 0, rfl, fun i l hi => ?_⟩⟩
  have hb := Blk.new w t #[.string a, .string b]
  match i, hi with
  | 0, hi => exact ⟨a, by rw [hb.cell]; rfl, by simpa using hi⟩
  | 1, hi => exact ⟨b, by rw [hb.cell]; rfl, by simpa using hi⟩
theorem all_two (w : World) (a b : ByteArray) (x y : Int) (ha : a.data.toList = T x) (hb : b.data.toList = T y) (hx : x.natAbs < Big) (hy : y.natAbs < Big) (t : TypeId) :
    Calls Tryz.prog 123 #[.slice (some ⟨w.heap.size, 0, none⟩) 2 2] (w.alloc (.cells #[.string a, .string b] t)) fun e w' => e = .returned (.int .i64 0) ∧ Below w.heap.size w w' := by
  have h1 := strs_two w a b t
  rw [ha, hb] at h1
  refine (all_any _ _ _ h1 (by simp) ?_).mono ?_
  · intro l hl
    have l1 := T_len_big hx
    have l2 := T_len_big hy
    rcases List.mem_cons.1 hl with rfl | hl
    · omega
    · rcases List.mem_cons.1 hl with rfl | hl
      · omega
      · cases hl
  · rintro e w' ⟨rfl, hbb⟩
    rw [chkAll_two hx hy]
    exact ⟨rfl, ((Below.refl _ _).alloc (Nat.le_refl _) _).trans (hbb.mono (by simp))⟩
set_option maxRecDepth 100000 in
set_option maxHeartbeats 1000000 in
theorem small_yes (w : World) (a b : ByteArray) (x y : Int) (ha : a.data.toList = T x) (hb : b.data.toList = T y) (hx : a.size ≤ 9) (hy : b.size ≤ 9) :
    Calls Tryz.prog 152 #[.string a, .string b] w fun e w' => e = .returned (.tuple #[.int .i64 x, .int .i64 y, .bool true]) ∧ Below w.heap.size w w' := by
  have h1 : ¬ (9 : Int) < (a.size : Int) := by omega
  have h2 : ¬ (9 : Int) < (b.size : Int) := by omega
  have l1 : (T x).length ≤ 18 := by rw [← ha, ← Lib.size_eq]; omega
  have l2 : (T y).length ≤ 18 := by rw [← hb, ← Lib.size_eq]; omega
  have HA := hide ha
  have HB := hide hb
  clear ha hb
  go_enter Tryz.func152, Tryz.ntmps152
  go_wp2_with fail
  refine (atoi_any a _ HA.out x l1 (atoi_T x) _).mono ?_
  rintro e w1 ⟨rfl, hb1⟩
  go_wp2_with fail
  refine (atoi_any b _ HB.out y l2 (atoi_T y) _).mono ?_
  rintro e w2 ⟨rfl, hb2⟩
  go_wp2_with fail
  go_ret3
  exact ⟨rfl, hb1.trans (hb2.mono hb1.size)⟩
set_option maxRecDepth 100000 in
set_option maxHeartbeats 1000000 in
theorem small_no (w : World) (a b : ByteArray) (h : 9 < a.size ∨ 9 < b.size) :
    Calls Tryz.prog 152 #[.string a, .string b] w fun e w' => e = .returned (.tuple #[.int .i64 0, .int .i64 0, .bool false]) ∧ w = w' := by
  by_cases h1 : 9 < a.size
  · have h1' : (9 : Int) < (a.size : Int) := by omega
    clear h
    go_enter Tryz.func152, Tryz.ntmps152
    go_wp2_with fail
    go_ret3
    exact ⟨rfl, rfl⟩
  · have h1' : ¬ (9 : Int) < (a.size : Int) := by omega
    have h2' : (9 : Int) < (b.size : Int) := by omega
    clear h
    go_enter Tryz.func152, Tryz.ntmps152
    go_wp2_with fail
    go_ret3
    exact ⟨rfl, rfl⟩
end Go.Proofs.YthmmgjieppknkaaGreatDoor

namespace Go.Proofs.YthmmgjieppknkaaGreatDoor
open Go.RowKit MLab
theorem ba_eq {s : ByteArray} {l : List UInt8} (h : s.data.toList = l) : s = ⟨l.toArray⟩ := by
  obtain ⟨⟨m⟩⟩ := s
  simp only at h
  rw [h]
theorem pow_fit {a b c k : Nat} (h : a + b = 9 * c) (hk : k < 10 ^ b) : k * 10 ^ a < W9 ^ c := by
  have h1 : W9 ^ c = 10 ^ a * 10 ^ b := by
    rw [← Nat.pow_add, h, Nat.pow_mul]; rfl
  rw [h1, Nat.mul_comm]
  exact Nat.mul_lt_mul_of_pos_left hk (Nat.pow_pos (by omega))
theorem lt_pow10 {b k : Nat} (hb : 5 ≤ b) (hk : k ≤ 10000) : k < 10 ^ b := by
  have h2 : (10 : Nat) ^ 5 ≤ 10 ^ b := Nat.pow_le_pow_right (by omega) hb
  omega
theorem Big_W9 {k : Nat} (hk : k ≤ 10000) : k * Big < W9 ^ 232 := by
  have h := pow_fit (a := 1024) (b := 1064) (c := 232) (k := k) (by decide) (lt_pow10 (b := 1064) (by decide) hk)
  unfold Big
  exact h
theorem sval_mul (x y : Int) : sval (decide (x < 0) != decide (y < 0)) (x.natAbs * y.natAbs) = x * y := by
  have hxa : (x.natAbs : Int) = if x < 0 then -x else x := by split <;> omega
  have hya : (y.natAbs : Int) = if y < 0 then -y else y := by split <;> omega
  unfold sval
  rw [Int.natCast_mul, hxa, hya]
  by_cases hx : x < 0 <;> by_cases hy : y < 0 <;> simp [hx, hy, Int.neg_mul, Int.mul_neg]
theorem sval_abs (l : Bool) (N : Nat) : (sval l N).natAbs = N := by unfold sval; split <;> omega
theorem sval_of {z : Int} {N : Nat} (h : N = z.natAbs) : sval (decide (z < 0)) N = z := by
  unfold sval; split <;> simp_all <;> omega
theorem sum_abs : ∀ (zs : List Int), (∀ z ∈ zs, z.natAbs < Big) → zs.sum.natAbs ≤ zs.length * Big
  | [], _ => by simp
  | z :: t, h => by
    have h1 := h z (by simp)
    have h2 := sum_abs t fun y hy => h y (by simp [hy])
    rw [List.sum_cons, List.length_cons, Nat.add_mul, Nat.one_mul]
    omega
set_option maxRecDepth 100000 in
set_option maxHeartbeats 1000000 in
theorem sum_any (w : World) (v : Value) (zs : List Int) (hv : Strs w v (zs.map T)) (hL : zs.length ≤ 4096) (hz : ∀ z ∈ zs, z.natAbs < Big) (hs : Std w) :
    Calls Tryz.prog 154 #[v] w fun e w' => RetLim (lim zs.sum) e ∧ Below w.heap.size w w' := by
  obtain ⟨A, c, rfl, hc⟩ := id hv
  rw [List.length_map] at hc ⊢
  have HC := hide hc
  have HZ := hide hz
  have HS := hide hs
  clear hv hc hz hs
  go_enter Tryz.func154, Tryz.ntmps154
  go_upto_region 2 with (fail)
  have hw0 := Wd.new w
  have hb0 : Below w.heap.size w (w.alloc (.cells Tryz.zeroCells221 221)) := (Below.refl _ _).alloc (Nat.le_refl _) _
  generalize (w.alloc (.cells Tryz.zeroCells221 221)) = w0 at *
  have H0 := hide hw0
  have HB0 := hide hb0
  clear hw0 hb0
  go_wp2_with fail
  go_loopg [11] zs.length (fun k i wr => ∃ (j : Nat) (l : Bool) (m : Nat) (d : Nat → Nat), i = .int .i64 (j : Int) ∧ k + j = zs.length ∧ Wd wr w.heap.size l m d ∧ Rt m d ∧ sval l (num d m) = (zs.take j).sum ∧ Below w.heap.size w wr)
  case atStart => exact ⟨0, false, 0, fun _ => 0, rfl, rfl, H0.out, ⟨fun _ => by decide, fun _ _ => rfl, .inl rfl, by omega⟩, by simp [sval, num], HB0.out⟩
  case round =>
    clear H0 HB0
    obtain ⟨j, l, m, d, rfl, hk, hW, hR, hN, hb⟩ := hrel
    have hj : j ≤ zs.length := by omega
    have HK := hide hk
    have HW := hide hW
    have HR := hide hR
    have HN := hide hN
    have HB := hide hb
    clear hk hW hR hN hb
    by_cases hlt : j < zs.length
    · have hji : (j : Int) < (zs.length : Int) := by omega
      obtain ⟨b, off, hA, hcell⟩ := HC.out (by omega)
      obtain ⟨s, h1, h2⟩ := hcell j (T zs[j]) (by rw [List.getElem?_map, List.getElem?_eq_getElem hlt]; rfl)
      have hc1 : wr.cell? ⟨b, off + j, none⟩ = some (.string s) := (HB.out.cell (p := ⟨b, off + j, none⟩) (block_lt_of_cell h1)).trans h1
      have hzj := HZ.out zs[j] (List.getElem_mem hlt)
      have H2 := hide h2
      have HZJ := hide hzj
      clear hcell h1 h2 hzj
      subst hA
      go_wp2_with fail
      refine (read_any s _ H2.out HZJ.out _).mono ?_
      rintro e w2 ⟨rfl, hb2, m2, d2, hW2, hR2, _, hn2⟩
      have hfit : num d m + num d2 m2 < W9 ^ 232 := by
        have h3 := sum_abs (zs.take j) fun z hz => HZ.out z (List.mem_of_mem_take hz)
        rw [← HN.out, sval_abs, List.length_take] at h3
        have h4 := HZJ.out
        have h5 := Big_W9 (k := 10000) (Nat.le_refl _)
        have h6 : min j zs.length * Big ≤ 4096 * Big := Nat.mul_le_mul_right _ (by omega)
        omega
      have K1 := hide hb2
      have K2 := hide hW2
      have K3 := hide hR2
      have K4 := hide hn2
      have K5 := hide hfit
      have hlb := HW.out.lt
      clear hb2 hW2 hR2 hn2 hfit
      go_wp2_with fail
      refine (plus_any _ _ _ _ _ _ _ _ _ (HW.out.below K1.out hlb) K2.out (by omega) HR.out K3.out K5.out).mono ?_
      rintro e w3 ⟨rfl, hg3, l3, m3, d3, hW3, hR3, hn3⟩
      have L1 := hide hg3
      have L2 := hide hW3
      have L3 := hide hR3
      have L4 := hide hn3
      clear hg3 hW3 hR3 hn3
      go_wp2_with fail
      go_roundg (gk - 1)
      case measure => have := HK.out; omega
      case rel =>
        refine ⟨j + 1, l3, m3, d3, by go_num, by have := HK.out; omega, L2.out, L3.out, ?_, ?_⟩
        · rw [L4.out, HN.out, sval_of K4.out, List.take_succ_eq_append_getElem hlt, List.sum_append]; simp
        · exact below_only (HB.out.trans (K1.out.mono HB.out.size)) L1.out (Nat.le_trans HB.out.size K1.out.size) (Nat.le_refl _)
    · have hji : ¬ (j : Int) < (zs.length : Int) := by omega
      have hsum : sval l (num d m) = zs.sum := by rw [HN.out, List.take_of_length_le (by omega)]
      have HSUM := hide hsum
      clear hsum
      go_wp2_with fail
      refine (limited_any _ _ _ _ _ _ HW.out HR.out HSUM.out (HS.out.below HB.out (Nat.le_refl _))).mono ?_
      rintro e w2 ⟨rfl, hb2⟩
      have K1 := hide hb2
      clear hb2
      go_wp2_with fail
      go_ret2
      exact ⟨rfl, HB.out.trans (K1.out.mono HB.out.size)⟩
structure Two (a b : ByteArray) (x y : Int) : Prop where
  ha : a.data.toList = T x
  hb : b.data.toList = T y
  bx : x.natAbs < Big
  bz : y.natAbs < Big
theorem Two.short {a b : ByteArray} {x y : Int} (h : Two a b x y) (h1 : a.size ≤ 9) (h2 : b.size ≤ 9) : x.natAbs < 1000000000 ∧ y.natAbs < 1000000000 :=
  ⟨len9 (by rw [← h.ha, ← Lib.size_eq]; exact h1), len9 (by rw [← h.hb, ← Lib.size_eq]; exact h2)⟩
set_option maxRecDepth 100000 in
set_option maxHeartbeats 1000000 in
theorem add_any (w : World) (a b : ByteArray) (x y : Int) (h : Two a b x y) (hs : Std w) :
    Calls Tryz.prog 124 #[.string a, .string b] w fun e w' => RetLim (lim (x + y)) e ∧ Below w.heap.size w w' := by
  have H := hide h
  have HS := hide hs
  clear h hs
  by_cases hsm : a.size ≤ 9 ∧ b.size ≤ 9
  · obtain ⟨h1, h2⟩ := hsm
    obtain ⟨b1, b2⟩ := H.out.short h1 h2
    go_enter Tryz.func124, Tryz.ntmps124
    go_wp2_with fail
    refine (all_two _ _ _ x y H.out.ha H.out.hb H.out.bx H.out.bz _).mono ?_
    rintro e w1 ⟨rfl, hb1⟩
    have K1 := hide hb1
    clear hb1
    go_wp2_with fail
    refine (small_yes _ _ _ x y H.out.ha H.out.hb h1 h2).mono ?_
    rintro e w2 ⟨rfl, hb2⟩
    have K2 := hide (K1.out.trans (hb2.mono K1.out.size))
    clear hb2
    have e1 : (-1000000000 : Int) < x := by omega
    have e2 : x < 1000000000 := by omega
    have e3 : (-1000000000 : Int) < y := by omega
    have e4 : y < 1000000000 := by omega
    go_wp2_with fail
    refine (result_any (x + y) (by omega) (by omega) _ (HS.out.below K2.out (Nat.le_refl _))).mono ?_
    rintro e w3 ⟨rfl, hb3⟩
    have K3 := hide (K2.out.trans (hb3.mono K2.out.size))
    clear hb3
    go_wp2_with fail
    go_ret2
    exact ⟨rfl, K3.out⟩
  · have hor : 9 < a.size ∨ 9 < b.size := by omega
    have HOR := hide hor
    clear hor hsm
    go_enter Tryz.func124, Tryz.ntmps124
    go_wp2_with fail
    refine (all_two _ _ _ x y H.out.ha H.out.hb H.out.bx H.out.bz _).mono ?_
    rintro e w1 ⟨rfl, hb1⟩
    have K1 := hide hb1
    clear hb1
    go_wp2_with fail
    refine (small_no _ _ _ HOR.out).mono ?_
    rintro e w2 ⟨rfl, rfl⟩
    go_wp2_with fail
    have hst := strs_two w1 a b 116
    rw [H.out.ha, H.out.hb] at hst
    refine (sum_any _ _ [x, y] hst (by simp) ?_ ?_).mono ?_
    · intro z hz
      rcases List.mem_cons.1 hz with rfl | hz
      · exact H.out.bx
      · rcases List.mem_cons.1 hz with rfl | hz
        · exact H.out.bz
        · cases hz
    · exact HS.out.below (K1.out.alloc K1.out.size _) (Nat.le_refl _)
    · rintro e w3 ⟨hr, hb3⟩
      have hsum : [x, y].sum = x + y := by simp
      rw [hsum] at hr
      rw [RetLim] at hr
      subst hr
      have K3 := hide ((K1.out.alloc K1.out.size _).trans (hb3.mono (by have := K1.out.size; simp; omega)))
      clear hb3 hsum hst
      go_wp2_with fail
      go_ret2
      exact ⟨rfl, K3.out⟩
set_option maxRecDepth 100000 in
set_option maxHeartbeats 1000000 in
theorem opposite_any (w : World) (s : ByteArray) (z : Int) (hs : s.data.toList = T z) (hb : z.natAbs < Big) :
    Calls Tryz.prog 125 #[.string s] w fun e w' => e = .returned (.string ⟨(T (-z)).toArray⟩) ∧ w = w' := by
  have HS := hide hs
  have hne : 1 ≤ s.size := by rw [Lib.size_eq, hs]; exact List.length_pos_iff.2 (T_ne z)
  have hsz : s.size ≤ 1025 := by rw [Lib.size_eq, hs]; exact T_len_big hb
  clear hs hb
  go_enter Tryz.func125, Tryz.ntmps125
  go_wp2_with fail
  refine (sign_any _ _ z HS.out).mono ?_
  rintro e w1 ⟨rfl, rfl⟩
  rcases Int.lt_trichotomy z 0 with hz | hz | hz
  · rw [Int.sign_eq_neg_one_iff_neg.2 hz]
    have hne' : (1 : Int) ≤ (s.size : Int) := by omega
    have HZ := hide hz
    clear hz
    go_wp2_with fail
    go_ret
    refine ⟨?_, rfl⟩
    have e1 : s.extract 1 s.size = ⟨(T (-z)).toArray⟩ := by
      refine ba_eq ?_
      have hz := HZ.out
      rw [Lib.extract_data, HS.out, T_neg hz, T_nonneg (by omega), List.drop_succ_cons, List.drop_zero, List.take_of_length_le, show (-z).toNat = z.natAbs by omega]
      rw [Lib.size_eq, HS.out, T_neg hz, List.length_cons]; omega
    rw [← e1]; rfl
  · subst hz
    go_wp2_with fail
    go_ret
    refine ⟨?_, rfl⟩
    have e1 : s = ⟨(T (-0)).toArray⟩ := ba_eq HS.out
    rw [← e1]; rfl
  · rw [Int.sign_eq_one_iff_pos.2 hz]
    have HZ := hide hz
    clear hz
    go_wp2_with fail
    go_ret
    refine ⟨?_, rfl⟩
    have e1 : (⟨#[45]⟩ : ByteArray) ++ s = ⟨(T (-z)).toArray⟩ := by
      refine ba_eq ?_
      have hz := HZ.out
      rw [ByteArray.data_append, Array.toList_append, HS.out, T_nonneg (z := z) (by omega), T_neg (z := -z) (by omega), show (-z).natAbs = z.toNat by omega]
      rfl
    rw [← e1]; rfl
set_option maxRecDepth 100000 in
set_option maxHeartbeats 1000000 in
theorem sub_any (w : World) (a b : ByteArray) (x y : Int) (h : Two a b x y) (hs : Std w) :
    Calls Tryz.prog 81 #[.string a, .string b] w fun e w' => RetLim (lim (x - y)) e ∧ Below w.heap.size w w' := by
  have H := hide h
  have HS := hide hs
  clear h hs
  go_enter Tryz.func81, Tryz.ntmps81
  go_wp2_with fail
  refine (all_two _ _ _ x y H.out.ha H.out.hb H.out.bx H.out.bz _).mono ?_
  rintro e w1 ⟨rfl, hb1⟩
  have K1 := hide hb1
  clear hb1
  go_wp2_with fail
  refine (opposite_any _ _ y H.out.hb H.out.bz).mono ?_
  rintro e w2 ⟨rfl, rfl⟩
  go_wp2_with fail
  refine (add_any _ _ _ x (-y) ⟨H.out.ha, rfl, H.out.bx, by have := H.out.bz; omega⟩ (HS.out.below K1.out (Nat.le_refl _))).mono ?_
  rintro e w3 ⟨hr, hb3⟩
  rw [show x + -y = x - y by omega, RetLim] at hr
  subst hr
  have K3 := hide (K1.out.trans (hb3.mono K1.out.size))
  clear hb3
  go_wp2_with fail
  go_ret2
  exact ⟨rfl, K3.out⟩
set_option maxRecDepth 100000 in
set_option maxHeartbeats 1000000 in
theorem mul_any (w : World) (a b : ByteArray) (x y : Int) (h : Two a b x y) (hs : Std w) :
    Calls Tryz.prog 127 #[.string a, .string b] w fun e w' => RetLim (lim (x * y)) e ∧ Below w.heap.size w w' := by
  have H := hide h
  have HS := hide hs
  clear h hs
  by_cases hsm : a.size ≤ 9 ∧ b.size ≤ 9
  · obtain ⟨h1, h2⟩ := hsm
    obtain ⟨b1, b2⟩ := H.out.short h1 h2
    go_enter Tryz.func127, Tryz.ntmps127
    go_wp2_with fail
    refine (all_two _ _ _ x y H.out.ha H.out.hb H.out.bx H.out.bz _).mono ?_
    rintro e w1 ⟨rfl, hb1⟩
    have K1 := hide hb1
    clear hb1
    go_wp2_with fail
    refine (small_yes _ _ _ x y H.out.ha H.out.hb h1 h2).mono ?_
    rintro e w2 ⟨rfl, hb2⟩
    have K2 := hide (K1.out.trans (hb2.mono K1.out.size))
    clear hb2
    have e5 : x * y ≤ 999999998000000001 ∧ -999999998000000001 ≤ x * y := by
      have hm : (x * y).natAbs ≤ 999999999 * 999999999 := by rw [Int.natAbs_mul]; exact Nat.mul_le_mul (by omega) (by omega)
      omega
    obtain ⟨e5, e6⟩ := e5
    go_wp2_with fail
    refine (result_any (x * y) (by omega) (by omega) _ (HS.out.below K2.out (Nat.le_refl _))).mono ?_
    rintro e w3 ⟨rfl, hb3⟩
    have K3 := hide (K2.out.trans (hb3.mono K2.out.size))
    clear hb3
    go_wp2_with fail
    go_ret2
    exact ⟨rfl, K3.out⟩
  · have hor : 9 < a.size ∨ 9 < b.size := by omega
    have HOR := hide hor
    clear hor hsm
    go_enter Tryz.func127, Tryz.ntmps127
    go_wp2_with fail
    refine (all_two _ _ _ x y H.out.ha H.out.hb H.out.bx H.out.bz _).mono ?_
    rintro e w1 ⟨rfl, hb1⟩
    have K1 := hide hb1
    clear hb1
    go_wp2_with fail
    refine (small_no _ _ _ HOR.out).mono ?_
    rintro e w2 ⟨rfl, rfl⟩
    go_wp2_with fail
    refine (read_any _ _ H.out.ha H.out.bx _).mono ?_
    rintro e w2 ⟨rfl, hb2, m2, d2, hW2, hR2, hm2, hn2⟩
    have A1 := hide hb2
    have A2 := hide hW2
    have A3 := hide hR2
    have A4 := hide hn2
    clear hb2 hW2 hR2 hn2
    go_wp2_with fail
    refine (read_any _ _ H.out.hb H.out.bz _).mono ?_
    rintro e w3 ⟨rfl, hb3, m3, d3, hW3, hR3, hm3, hn3⟩
    have B1 := hide hb3
    have B2 := hide hW3
    have B3 := hide hR3
    have B4 := hide hn3
    have hlt := A2.out.lt
    clear hb3 hW3 hR3 hn3
    go_wp2_with fail
    refine (times_any _ _ _ _ _ _ _ _ _ (A2.out.below B1.out hlt) B2.out A3.out B3.out (by omega)).mono ?_
    rintro e w4 ⟨rfl, hb4, m4, d4, hW4, hR4, hn4⟩
    have C1 := hide hb4
    have C2 := hide hW4
    have C3 := hide hR4
    have hval : sval (decide (x < 0) != decide (y < 0)) (num d4 m4) = x * y := by
      rw [hn4, A4.out, B4.out]; exact sval_mul x y
    have C4 := hide hval
    have K2 := hide ((K1.out.trans (A1.out.mono K1.out.size)).trans ((B1.out.mono (Nat.le_trans K1.out.size A1.out.size)).trans (C1.out.mono (Nat.le_trans K1.out.size (Nat.le_trans A1.out.size B1.out.size)))))
    clear hb4 hW4 hR4 hn4 hval
    go_wp2_with fail
    refine (limited_any _ _ _ _ _ _ C2.out C3.out C4.out (HS.out.below K2.out (Nat.le_refl _))).mono ?_
    rintro e w5 ⟨rfl, hb5⟩
    have K3 := hide (K2.out.trans (hb5.mono K2.out.size))
    clear hb5
    go_wp2_with fail
    go_ret2
    exact ⟨rfl, K3.out⟩
end Go.Proofs.YthmmgjieppknkaaGreatDoor

namespace Go.Proofs.YthmmgjieppknkaaGreatDoor
open Go.RowKit MLab
theorem floor_of {x y q r : Int} (h : x = q * y + r) (hr : (0 ≤ r ∧ r < y) ∨ (y < r ∧ r ≤ 0)) : x.fdiv y = q ∧ x.fmod y = r := by
  rcases hr with hr | hr
  · exact (Int.fdiv_fmod_unique (by omega)).2 ⟨by rw [h, Int.mul_comm]; omega, hr.1, hr.2⟩
  · exact (Int.fdiv_fmod_unique' (by omega)).2 ⟨by rw [h, Int.mul_comm]; omega, hr.1, hr.2⟩
theorem tdiv_floor {x y : Int} (hy : y ≠ 0) : (x.tmod y = 0 ∨ (x.tmod y < 0 ↔ y < 0) → x.fdiv y = x.tdiv y ∧ x.fmod y = x.tmod y) ∧
    (x.tmod y ≠ 0 → ¬ (x.tmod y < 0 ↔ y < 0) → x.fdiv y = x.tdiv y - 1 ∧ x.fmod y = x.tmod y + y) := by
  have e : x = x.tdiv y * y + x.tmod y := (Int.tdiv_mul_add_tmod x y).symm
  have h1 : (x.tmod y).natAbs < y.natAbs := by rw [Int.natAbs_tmod]; exact Nat.mod_lt _ (by omega)
  refine ⟨fun h => ?_, fun h2 h => ?_⟩
  · exact floor_of e (by omega)
  · refine floor_of ?_ (by omega)
    rw [Int.sub_mul]; omega
theorem mag_floor {x y : Int} (hy : y ≠ 0) : ((x.natAbs % y.natAbs = 0 ∨ decide (x < 0) = decide (y < 0)) → x.fdiv y = sval (decide (x < 0) != decide (y < 0)) (x.natAbs / y.natAbs) ∧ x.fmod y = sval (decide (x < 0)) (x.natAbs % y.natAbs)) ∧
    (x.natAbs % y.natAbs ≠ 0 → decide (x < 0) ≠ decide (y < 0) → x.fdiv y = sval true (x.natAbs / y.natAbs) + sval true 1 ∧ x.fmod y = sval (decide (x < 0)) (x.natAbs % y.natAbs) + y) := by
  have h1 : x.natAbs % y.natAbs < y.natAbs := Nat.mod_lt _ (by omega)
  have h2 := Nat.div_add_mod x.natAbs y.natAbs
  have h3 : ((y.natAbs * (x.natAbs / y.natAbs) + x.natAbs % y.natAbs : Nat) : Int) = (x.natAbs : Int) := by rw [h2]
  rw [Int.natCast_add, Int.natCast_mul] at h3
  generalize x.natAbs / y.natAbs = Q at *
  generalize x.natAbs % y.natAbs = R at *
  clear h2
  constructor
  · intro h
    refine floor_of ?_ ?_
    · by_cases hx : x < 0 <;> by_cases hy' : y < 0 <;> simp [sval, hx, hy']
      · rw [show (y.natAbs : Int) = -y by omega, show (x.natAbs : Int) = -x by omega, Int.neg_mul, Int.mul_comm] at h3; omega
      · rw [show (y.natAbs : Int) = y by omega, show (x.natAbs : Int) = -x by omega, Int.mul_comm] at h3; rw [Int.neg_mul]; omega
      · rw [show (y.natAbs : Int) = -y by omega, show (x.natAbs : Int) = x by omega, Int.neg_mul, Int.mul_comm] at h3; rw [Int.neg_mul]; omega
      · rw [show (y.natAbs : Int) = y by omega, show (x.natAbs : Int) = x by omega, Int.mul_comm] at h3; omega
    · by_cases hx : x < 0 <;> by_cases hy' : y < 0 <;> simp [sval, hx, hy'] at h ⊢ <;> omega
  · intro h0 h
    refine floor_of ?_ ?_
    · by_cases hx : x < 0 <;> by_cases hy' : y < 0 <;> simp [sval, hx, hy'] at h ⊢
      · rw [show (y.natAbs : Int) = y by omega, show (x.natAbs : Int) = -x by omega, Int.mul_comm] at h3; rw [Int.add_mul, Int.neg_mul, Int.neg_mul, Int.one_mul]; omega
      · rw [show (y.natAbs : Int) = -y by omega, show (x.natAbs : Int) = x by omega, Int.neg_mul, Int.mul_comm] at h3; rw [Int.add_mul, Int.neg_mul, Int.neg_mul, Int.one_mul]; omega
    · by_cases hx : x < 0 <;> by_cases hy' : y < 0 <;> simp [sval, hx, hy'] at h ⊢ <;> omega
def RetParted (x y : Int) (e : Ending) : Prop := e = .returned (.tuple #[.string ⟨(T (x.fdiv y)).toArray⟩, .string ⟨(T (x.fmod y)).toArray⟩, .int .i64 0])
set_option maxRecDepth 100000 in
set_option maxHeartbeats 2000000 in
theorem parted_small (w : World) (a b : ByteArray) (x y : Int) (h : Two a b x y) (hy : y ≠ 0) (h1 : a.size ≤ 9) (h2 : b.size ≤ 9) (hs : Std w) :
    Calls Tryz.prog 162 #[.string a, .string b] w fun e w' => RetParted x y e ∧ Below w.heap.size w w' := by
  have hb0 : (b.toList == [48]) = false := by
    rw [Lib.toList_data, h.hb, beq_eq_false_iff_ne]; intro e; exact hy (T_inj (e.trans T_zero.symm))
  obtain ⟨b1, b2⟩ := h.short h1 h2
  have H := hide h
  have HS := hide hs
  have htd : (x.tdiv y).natAbs ≤ x.natAbs := by rw [Int.natAbs_tdiv]; exact Nat.div_le_self _ _
  have htm : (x.tmod y).natAbs < y.natAbs := by rw [Int.natAbs_tmod]; exact Nat.mod_lt _ (by omega)
  have hfl := tdiv_floor (x := x) hy
  have HFL := hide hfl
  clear h hs hfl
  have ey : (y == 0) = false := by rw [beq_eq_false_iff_ne]; exact hy
  have ew1 : IntKind.i64.wrap (x.tdiv y) = x.tdiv y := IntWalk.i64_in _ ⟨by omega, by omega⟩
  have ew2 : IntKind.i64.wrap (x.tmod y) = x.tmod y := IntWalk.i64_in _ ⟨by omega, by omega⟩
  have q1 : -1000000000 < x.tdiv y := by omega
  have q2 : x.tdiv y < 1000000000 := by omega
  have r1 : -1000000000 < x.tmod y := by omega
  have r2 : x.tmod y < 1000000000 := by omega
  have y1 : -1000000000 < y := by omega
  have y2 : y < 1000000000 := by omega
  go_enter Tryz.func162, Tryz.ntmps162
  go_wp2_with fail
  refine (all_two _ _ _ x y H.out.ha H.out.hb H.out.bx H.out.bz _).mono ?_
  rintro e w1 ⟨rfl, hb1⟩
  have K1 := hide hb1
  clear hb1
  go_wp2_with fail
  refine (small_yes _ _ _ x y H.out.ha H.out.hb h1 h2).mono ?_
  rintro e w2 ⟨rfl, hb2⟩
  have K2 := hide (K1.out.trans (hb2.mono K1.out.size))
  clear hb2
  go_wp2_with fail
  go_quiet (fail)
  clear ew1 ew2
  generalize hq : x.tdiv y = q at *
  generalize hr : x.tmod y = r at *
  clear hq hr htd htm
  by_cases hr0 : r = 0
  · have hb0 : (r != 0) = false := by rw [hr0]; rfl
    obtain ⟨f1, f2⟩ := HFL.out.1 (.inl hr0)
    have F1 := hide f1
    have F2 := hide f2
    clear f1 f2
    have HR0 := hide hr0
    go_wp2_with fail
    refine (of_any _ (by omega) (by omega) _ (HS.out.below (below_drewN K2.out _) (Nat.le_refl _))).mono ?_
    rintro e w3 ⟨rfl, hb3⟩
    have K3 := hide ((below_drewN K2.out nq).trans (hb3.mono (by have := K2.out.size; simp; omega)))
    clear hb3
    go_wp2_with fail
    refine (of_any _ (by omega) (by omega) _ (HS.out.below K3.out (Nat.le_refl _))).mono ?_
    rintro e w4 ⟨rfl, hb4⟩
    have K4 := hide (K3.out.trans (hb4.mono K3.out.size))
    clear hb4
    go_wp2_with fail
    go_ret3
    refine ⟨?_, K4.out⟩
    rw [RetParted, F1.out, F2.out, HR0.out]; rfl
  · have hb0 : (r != 0) = true := by rw [bne_iff_ne]; exact hr0
    by_cases hk : (r < 0 ↔ y < 0)
    · have hb1 : (!(decide (r < 0) == decide (y < 0))) = false := by simp [hk]
      obtain ⟨f1, f2⟩ := HFL.out.1 (.inr hk)
      have F1 := hide f1
      have F2 := hide f2
      clear f1 f2 hk
      go_wp2_with fail
      refine (of_any _ (by omega) (by omega) _ (HS.out.below (below_drewN K2.out _) (Nat.le_refl _))).mono ?_
      rintro e w3 ⟨rfl, hb3⟩
      have K3 := hide ((below_drewN K2.out nq).trans (hb3.mono (by have := K2.out.size; simp; omega)))
      clear hb3
      go_wp2_with fail
      refine (of_any _ (by omega) (by omega) _ (HS.out.below K3.out (Nat.le_refl _))).mono ?_
      rintro e w4 ⟨rfl, hb4⟩
      have K4 := hide (K3.out.trans (hb4.mono K3.out.size))
      clear hb4
      go_wp2_with fail
      go_ret3
      refine ⟨?_, K4.out⟩
      rw [RetParted, F1.out, F2.out]; rfl
    · have hb1 : (!(decide (r < 0) == decide (y < 0))) = true := by
        by_cases h1 : r < 0 <;> by_cases h2 : y < 0 <;> simp [h1, h2] at hk ⊢
      obtain ⟨f1, f2⟩ := HFL.out.2 hr0 hk
      have F1 := hide f1
      have F2 := hide f2
      clear f1 f2 hk
      go_wp2_with fail
      refine (of_any _ (by omega) (by omega) _ (HS.out.below (below_drewN K2.out _) (Nat.le_refl _))).mono ?_
      rintro e w3 ⟨rfl, hb3⟩
      have K3 := hide ((below_drewN K2.out nq).trans (hb3.mono (by have := K2.out.size; simp; omega)))
      clear hb3
      go_wp2_with fail
      refine (of_any _ (by omega) (by omega) _ (HS.out.below K3.out (Nat.le_refl _))).mono ?_
      rintro e w4 ⟨rfl, hb4⟩
      have K4 := hide (K3.out.trans (hb4.mono K3.out.size))
      clear hb4
      go_wp2_with fail
      go_ret3
      refine ⟨?_, K4.out⟩
      rw [RetParted, F1.out, F2.out]; rfl
set_option maxRecDepth 100000 in
set_option maxHeartbeats 4000000 in
theorem parted_great (w : World) (a b : ByteArray) (x y : Int) (h : Two a b x y) (hy : y ≠ 0) (hl : 9 < a.size ∨ 9 < b.size) (hs : Std w) :
    Calls Tryz.prog 162 #[.string a, .string b] w fun e w' => RetParted x y e ∧ Below w.heap.size w w' := by
  have hb0 : (b.toList == [48]) = false := by
    rw [Lib.toList_data, h.hb, beq_eq_false_iff_ne]; intro e; exact hy (T_inj (e.trans T_zero.symm))
  have H := hide h
  have HS := hide hs
  have HY := hide hy
  have HL := hide hl
  have hfl := mag_floor (x := x) hy
  have HFL := hide hfl
  clear h hs hy hl hfl
  go_enter Tryz.func162, Tryz.ntmps162
  go_wp2_with fail
  refine (all_two _ _ _ x y H.out.ha H.out.hb H.out.bx H.out.bz _).mono ?_
  rintro e w1 ⟨rfl, hb1⟩
  have K1 := hide hb1
  clear hb1
  go_wp2_with fail
  refine (small_no _ _ _ HL.out).mono ?_
  rintro e w2 ⟨rfl, rfl⟩
  go_wp2_with fail
  refine (read_any _ _ H.out.ha H.out.bx _).mono ?_
  rintro e w2 ⟨rfl, hb2, mx, dx, hWx, hRx, hmx, hnx⟩
  have A1 := hide hb2
  have A2 := hide hWx
  have A3 := hide hRx
  have A4 := hide hnx
  clear hb2 hWx hRx hnx
  go_wp2_with fail
  refine (read_any _ _ H.out.hb H.out.bz _).mono ?_
  rintro e w3 ⟨rfl, hb3, my, dy, hWy, hRy, hmy, hny⟩
  have B1 := hide hb3
  have B2 := hide hWy
  have B3 := hide hRy
  have B4 := hide hny
  have hlt := A2.out.lt
  have hmy1 : 1 ≤ my := by
    refine Nat.le_of_not_lt fun h0 => ?_
    have : my = 0 := by omega
    rw [this, num_zero] at hny
    have := HY.out
    omega
  clear hb3 hWy hRy hny
  go_wp2_with fail
  refine (divided_any _ _ _ _ _ _ _ _ _ (A2.out.below B1.out hlt) B2.out A3.out B3.out hmy1 (by omega)).mono ?_
  rintro e w4 ⟨rfl, hb4, nq, dq, nr, dr, hWq, hWr, hRq, hRr, hnq, hnr⟩
  have hlt3 := B2.out.lt
  have A5 := hide ((A2.out.below B1.out hlt).below hb4 (Nat.lt_of_lt_of_le hlt B1.out.size))
  have B5 := hide (B2.out.below hb4 hlt3)
  have hs1 : w1.heap.size < w2.heap.size := hlt
  have K4 := hide ((K1.out.trans (A1.out.mono K1.out.size)).trans ((B1.out.mono (by have := K1.out.size; omega)).trans (hb4.mono (by have := K1.out.size; omega))))
  have hwq := K1.out.size
  have C1 := hide hWq
  have C2 := hide hWr
  have C3 := hide hRq
  have C4 := hide hRr
  rw [A4.out, B4.out] at hnq hnr
  have C5 := hide hnq
  have C6 := hide hnr
  clear hb4 hWq hWr hRq hRr hnq hnr A1 A2 B1 B2
  have x0 : w4.cell? ⟨w1.heap.size, 0, none⟩ = some (.bool (decide (x < 0))) := A5.out.sgn
  have y0 : w4.cell? ⟨w2.heap.size, 0, none⟩ = some (.bool (decide (y < 0))) := B5.out.sgn
  have q0 : w4.cell? ⟨w3.heap.size, 0, none⟩ = some (.bool false) := C1.out.sgn
  have r0 : w4.cell? ⟨w3.heap.size + 1, 0, none⟩ = some (.bool false) := C2.out.sgn
  have qf : w4.frozen? ⟨w3.heap.size, 0, none⟩ = false := C1.out.frozen 0
  have rf : w4.frozen? ⟨w3.heap.size + 1, 0, none⟩ = false := C2.out.frozen 0
  go_wp2_with fail
  go_region
  go_wp2_with fail
  have hq5 : Wd (((w4.setCell ⟨w3.heap.size, 0, none⟩ (.bool (!(decide (x < 0) == decide (y < 0))))).setCell ⟨w3.heap.size + 1, 0, none⟩ (.bool (decide (x < 0)))).drew) w3.heap.size (decide (x < 0) != decide (y < 0)) nq dq := ((C1.out.setLess _).far (by show w3.heap.size ≠ w3.heap.size + 1; omega) _).drew
  have hr5 : Wd (((w4.setCell ⟨w3.heap.size, 0, none⟩ (.bool (!(decide (x < 0) == decide (y < 0))))).setCell ⟨w3.heap.size + 1, 0, none⟩ (.bool (decide (x < 0)))).drew) (w3.heap.size + 1) (decide (x < 0)) nr dr := ((C2.out.far (by show w3.heap.size + 1 ≠ w3.heap.size; omega) _).setLess _).drew
  have ha5 : Wd (((w4.setCell ⟨w3.heap.size, 0, none⟩ (.bool (!(decide (x < 0) == decide (y < 0))))).setCell ⟨w3.heap.size + 1, 0, none⟩ (.bool (decide (x < 0)))).drew) w1.heap.size (decide (x < 0)) mx dx := ((A5.out.far (by show w1.heap.size ≠ w3.heap.size; omega) _).far (by show w1.heap.size ≠ w3.heap.size + 1; omega) _).drew
  have hb5 : Wd (((w4.setCell ⟨w3.heap.size, 0, none⟩ (.bool (!(decide (x < 0) == decide (y < 0))))).setCell ⟨w3.heap.size + 1, 0, none⟩ (.bool (decide (x < 0)))).drew) w2.heap.size (decide (y < 0)) my dy := ((B5.out.far (by show w2.heap.size ≠ w3.heap.size; omega) _).far (by show w2.heap.size ≠ w3.heap.size + 1; omega) _).drew
  have hk5 : Below w.heap.size w (((w4.setCell ⟨w3.heap.size, 0, none⟩ (.bool (!(decide (x < 0) == decide (y < 0))))).setCell ⟨w3.heap.size + 1, 0, none⟩ (.bool (decide (x < 0)))).drew) := ((K4.out.setCell (by show w.heap.size ≤ w3.heap.size; omega) _).setCell (by show w.heap.size ≤ w3.heap.size + 1; omega) _).drew
  generalize (((w4.setCell ⟨w3.heap.size, 0, none⟩ (.bool (!(decide (x < 0) == decide (y < 0))))).setCell ⟨w3.heap.size + 1, 0, none⟩ (.bool (decide (x < 0)))).drew) = w5 at *
  have Q5 := hide hq5
  have R5 := hide hr5
  have A6 := hide ha5
  have B6 := hide hb5
  have K5 := hide hk5
  have hlr := hr5.lt
  clear hq5 hr5 ha5 hb5 hk5 x0 y0 q0 r0 qf rf A5 B5 C1 C2 K4
  have x0 : w5.cell? ⟨w1.heap.size, 0, none⟩ = some (.bool (decide (x < 0))) := A6.out.sgn
  have y0 : w5.cell? ⟨w2.heap.size, 0, none⟩ = some (.bool (decide (y < 0))) := B6.out.sgn
  have n0 : w5.cell? ⟨w3.heap.size + 1, 1, none⟩ = some (.int .i64 (nr : Int)) := R5.out.cnt
  by_cases hn0 : nr = 0
  · have hd : decide (0 < nr) = false := by rw [hn0]; rfl
    have hR0 : x.natAbs % y.natAbs = 0 := by rw [← C6.out, hn0]; rfl
    obtain ⟨f1, f2⟩ := HFL.out.1 (.inl hR0)
    have F1 := hide f1
    have F2 := hide f2
    clear f1 f2 hn0 hR0
    go_quiet (fail)
    go_wp2_with fail
    refine (text_any _ _ _ _ _ (Q5.out.drewN _) C3.out (HS.out.below (below_drewN K5.out _) (Nat.le_refl _))).mono ?_
    rintro e w6 ⟨rfl, hb6⟩
    have K6 := hide (Below.trans (below_drewN (Below.refl w5.heap.size w5) _) hb6)
    clear hb6
    go_wp2_with fail
    refine (text_any _ _ _ _ _ (R5.out.below K6.out hlr) C4.out (HS.out.below (K5.out.trans (K6.out.mono K5.out.size)) (Nat.le_refl _))).mono ?_
    rintro e w7 ⟨rfl, hb7⟩
    have K7 := hide ((K5.out.trans (K6.out.mono K5.out.size)).trans (hb7.mono (Nat.le_trans K5.out.size K6.out.size)))
    clear hb7
    go_wp2_with fail
    go_ret3
    refine ⟨?_, K7.out⟩
    rw [RetParted, F1.out, F2.out, C5.out, C6.out]; rfl
  · have hd : 0 < nr := by omega
    have hd2 : decide (0 < nr) = true := by simpa using hd
    have hR0 : x.natAbs % y.natAbs ≠ 0 := by rw [← C6.out]; intro e; exact hn0 ((num_zero_iff C4.out.full).1 e)
    by_cases hsg : decide (x < 0) = decide (y < 0)
    · have hb1 : (!(decide (x < 0) == decide (y < 0))) = false := by rw [hsg]; simp
      obtain ⟨f1, f2⟩ := HFL.out.1 (.inr hsg)
      have F1 := hide f1
      have F2 := hide f2
      clear f1 f2 hsg hR0
      go_quiet (fail)
      go_wp2_with fail
      refine (text_any _ _ _ _ _ (Q5.out.drewN _) C3.out (HS.out.below (below_drewN K5.out _) (Nat.le_refl _))).mono ?_
      rintro e w6 ⟨rfl, hb6⟩
      have K6 := hide (Below.trans (below_drewN (Below.refl w5.heap.size w5) _) hb6)
      clear hb6
      go_wp2_with fail
      refine (text_any _ _ _ _ _ (R5.out.below K6.out hlr) C4.out (HS.out.below (K5.out.trans (K6.out.mono K5.out.size)) (Nat.le_refl _))).mono ?_
      rintro e w7 ⟨rfl, hb7⟩
      have K7 := hide ((K5.out.trans (K6.out.mono K5.out.size)).trans (hb7.mono (Nat.le_trans K5.out.size K6.out.size)))
      clear hb7
      go_wp2_with fail
      go_ret3
      refine ⟨?_, K7.out⟩
      rw [RetParted, F1.out, F2.out, C5.out, C6.out]; rfl
    · have hb1 : (!(decide (x < 0) == decide (y < 0))) = true := by rw [Bool.not_eq_true', beq_eq_false_iff_ne]; exact hsg
      obtain ⟨f1, f2⟩ := HFL.out.2 hR0 hsg
      have F1 := hide f1
      have F2 := hide f2
      have HSG := hide hsg
      clear f1 f2 hsg hR0
      go_quiet (fail)
      go_upto_region 17 with (fail)
      have ho : Wd ((w5.drewN nq).alloc (.cells ((Tryz.zeroCells221.setIfInBounds 0 (.bool true)).setIfInBounds 1 (.int .i64 1)) 221)) w5.heap.size true 1 (fun _ => 0) := Wd.newone (w5.drewN nq) true
      have hk6 : Below w.heap.size w ((w5.drewN nq).alloc (.cells ((Tryz.zeroCells221.setIfInBounds 0 (.bool true)).setIfInBounds 1 (.int .i64 1)) 221)) := (below_drewN K5.out _).alloc (by have := K5.out.size; simp; omega) _
      have hq6 := (Q5.out.drewN nq).alloc (.cells ((Tryz.zeroCells221.setIfInBounds 0 (.bool true)).setIfInBounds 1 (.int .i64 1)) 221)
      have hr6 := (R5.out.drewN nq).alloc (.cells ((Tryz.zeroCells221.setIfInBounds 0 (.bool true)).setIfInBounds 1 (.int .i64 1)) 221)
      have hy6 := (B6.out.drewN nq).alloc (.cells ((Tryz.zeroCells221.setIfInBounds 0 (.bool true)).setIfInBounds 1 (.int .i64 1)) 221)
      have hsz6 : ((w5.drewN nq).alloc (.cells ((Tryz.zeroCells221.setIfInBounds 0 (.bool true)).setIfInBounds 1 (.int .i64 1)) 221)).heap.size = w5.heap.size + 1 := by simp
      generalize ((w5.drewN nq).alloc (.cells ((Tryz.zeroCells221.setIfInBounds 0 (.bool true)).setIfInBounds 1 (.int .i64 1)) 221)) = w6 at *
      have o2 : w6.cell? ⟨w5.heap.size, 2, none⟩ = some (.int .i64 0) := by have := ho.at_ (i := 0) (by omega); simpa using this
      have of2 := ho.frozen 2
      have q0 := hq6.sgn
      have qf := hq6.frozen 0
      have O6 := hide ho
      have K6 := hide hk6
      have Q6 := hide hq6
      have R6 := hide hr6
      have Y6 := hide hy6
      have S6 := hide hsz6
      clear ho hk6 hq6 hr6 hy6 hsz6 x0 y0 n0
      have hlo := O6.out.lt
      have hfit1 : x.natAbs / y.natAbs + 1 < W9 ^ 232 := by
        have h1 := Nat.div_le_self x.natAbs y.natAbs
        have h2 := H.out.bx
        have h3 := Big_W9 (k := 10000) (Nat.le_refl _)
        omega
      have hfit2 : x.natAbs % y.natAbs + y.natAbs < W9 ^ 232 := by
        have h1 := Nat.mod_le x.natAbs y.natAbs
        have h2 := H.out.bx
        have h4 := H.out.bz
        have h3 := Big_W9 (k := 10000) (Nat.le_refl _)
        omega
      have FIT1 := hide hfit1
      have FIT2 := hide hfit2
      clear hfit1 hfit2
      have hone1 : Rt 1 (upd (fun _ => 0) 0 1) := ⟨Lows.upd (fun _ => by decide) 0 (by decide), fun i hi => by rw [upd_other _ _ (by omega)], .inr (by rw [upd_same]; decide), by omega⟩
      have hnum1 : num (upd (fun _ => 0) 0 1) 1 = 1 := by simp [num, upd]
      have ONE := hide hone1
      have NUM1 := hide hnum1
      clear hone1 hnum1
      go_wp2_with fail
      refine (plus_any _ w3.heap.size w5.heap.size true true _ 1 dq (upd (fun _ => 0) 0 1) ?pq ?po (by omega) C3.out ONE.out (by rw [C5.out, NUM1.out]; exact FIT1.out)).mono ?_
      case pq => exact (Q6.out.far (by show w3.heap.size ≠ w5.heap.size; omega) _).setLess true
      case po => exact (O6.out.setAt' (i := 0) rfl (by omega) 1 rfl).far (by show w5.heap.size ≠ w3.heap.size; omega) _
      rintro e w7 ⟨rfl, hg7, l7, m7, d7, hW7, hR7, hv7⟩
      rw [C5.out, NUM1.out, ← F1.out] at hv7
      have hr7 : Wd w7 (w3.heap.size + 1) (decide (x < 0)) nr dr := ((R6.out.far (by show w3.heap.size + 1 ≠ w5.heap.size; omega) _).far (by show w3.heap.size + 1 ≠ w3.heap.size; omega) _).grown hg7 (by simp)
      have hy7 : Wd w7 w2.heap.size (decide (y < 0)) my dy := ((Y6.out.far (by show w2.heap.size ≠ w5.heap.size; omega) _).far (by show w2.heap.size ≠ w3.heap.size; omega) _).grown hg7 (by simp; omega)
      have hk7 : Below w.heap.size w w7 := by
        refine below_only ((K6.out.setCell (by show w.heap.size ≤ w5.heap.size; have := K5.out.size; omega) _).setCell (by show w.heap.size ≤ w3.heap.size; omega) _) hg7 ?_ (by omega)
        have := K6.out.size; simpa [World.setCell] using this
      have Q7 := hide hW7
      have RT7 := hide hR7
      have V7 := hide hv7
      have R7 := hide hr7
      have Y7 := hide hy7
      have K7 := hide hk7
      clear hg7 hW7 hR7 hv7 hr7 hy7 hk7 O6 K6 Q6 R6 Y6 S6 o2 of2 q0 qf
      go_wp2_with fail
      refine (plus_any _ (w3.heap.size + 1) w2.heap.size _ _ _ _ _ _ R7.out Y7.out (by omega) C4.out B3.out (by rw [C6.out, B4.out]; exact FIT2.out)).mono ?_
      rintro e w8 ⟨rfl, hg8, l8, m8, d8, hW8, hR8, hv8⟩
      rw [C6.out, B4.out, sval_of (z := y) rfl, ← F2.out] at hv8
      have hq8 := Q7.out.grown hg8 (by simp)
      have hk8 : Below w.heap.size w w8 := below_only K7.out hg8 (by have := K7.out.size; omega) (by omega)
      have Q8 := hide hq8
      have R8 := hide hW8
      have RT8 := hide hR8
      have V8 := hide hv8
      have K8 := hide hk8
      have hlr8 := hW8.lt
      clear hg8 hq8 hW8 hR8 hv8 hk8
      go_wp2_with fail
      refine (text_any _ _ _ _ _ Q8.out RT7.out (HS.out.below K8.out (Nat.le_refl _))).mono ?_
      rintro e w9 ⟨rfl, hb9⟩
      have K9 := hide hb9
      clear hb9
      go_wp2_with fail
      refine (text_any _ _ _ _ _ (R8.out.below K9.out hlr8) RT8.out (HS.out.below (K8.out.trans (K9.out.mono K8.out.size)) (Nat.le_refl _))).mono ?_
      rintro e w10 ⟨rfl, hb10⟩
      have K10 := hide ((K8.out.trans (K9.out.mono K8.out.size)).trans (hb10.mono (Nat.le_trans K8.out.size K9.out.size)))
      clear hb10
      go_wp2_with fail
      go_ret3
      refine ⟨?_, K10.out⟩
      rw [RetParted, ← V7.out, ← V8.out]; rfl
theorem parted_any (w : World) (a b : ByteArray) (x y : Int) (h : Two a b x y) (hy : y ≠ 0) (hs : Std w) :
    Calls Tryz.prog 162 #[.string a, .string b] w fun e w' => RetParted x y e ∧ Below w.heap.size w w' := by
  by_cases h1 : a.size ≤ 9 ∧ b.size ≤ 9
  · exact parted_small w a b x y h hy h1.1 h1.2 hs
  · exact parted_great w a b x y h hy (by omega) hs
theorem fdiv_big {x y : Int} (hx : x.natAbs < Big) : (x.fdiv y).natAbs ≤ Big := by
  by_cases hy : y = 0
  · subst hy; simp
  have h1 := Nat.div_le_self x.natAbs y.natAbs
  by_cases hc : x.natAbs % y.natAbs = 0 ∨ decide (x < 0) = decide (y < 0)
  · rw [((mag_floor hy).1 hc).1, sval_abs]; omega
  · rw [((mag_floor hy).2 (fun e => hc (.inl e)) (fun e => hc (.inr e))).1]
    generalize x.natAbs / y.natAbs = Q at *
    unfold sval; omega
set_option maxRecDepth 100000 in
set_option maxHeartbeats 1000000 in
theorem quo_any (w : World) (a b : ByteArray) (x y : Int) (h : Two a b x y) (hy : y ≠ 0) (hs : Std w) :
    Calls Tryz.prog 130 #[.string a, .string b] w fun e w' => RetLim (lim (x.fdiv y)) e ∧ Below w.heap.size w w' := by
  have hq := parted_any w a b x y h hy hs
  have hlen : (T (x.fdiv y)).length ≤ 2089 := by
    have h1 := fdiv_big (y := y) h.bx
    have h2 := dec_len_W9 (N := (x.fdiv y).natAbs) (m := 232) (by omega) (by have := Big_W9 (k := 10000) (Nat.le_refl _); have := h.bx; omega)
    rw [T_length]; split <;> omega
  have hc := chk_T (x.fdiv y)
  have HQ := hide hq
  have HC := hide hc
  clear hq hc h hy hs
  generalize hg : (⟨(T (x.fdiv y)).toArray⟩ : ByteArray) = g
  have hgd : g.data.toList = T (x.fdiv y) := by rw [← hg]
  have HG := hide hg
  have HGD := hide hgd
  clear hg hgd
  go_enter Tryz.func130, Tryz.ntmps130
  go_wp2_with fail
  refine HQ.out.mono ?_
  rintro e w1 ⟨hr, hb1⟩
  rw [RetParted, HG.out] at hr
  subst hr
  have K1 := hide hb1
  clear hb1
  go_wp2_with fail
  refine (check_any g _ HGD.out (by rw [Lib.size_eq, HGD.out]; omega) _).mono ?_
  rintro e w2 ⟨rfl, hb2⟩
  have K2 := hide (K1.out.trans (hb2.mono K1.out.size))
  clear hb2
  by_cases hzb : (x.fdiv y).natAbs < Big
  · rw [HC.out, if_pos hzb]
    have HZ := hide (lim_ok hzb)
    clear hzb
    go_wp2_with fail
    go_ret2
    refine ⟨?_, K2.out⟩
    rw [HZ.out, RetLim, HG.out]; rfl
  · rw [HC.out, if_neg hzb]
    have HZ := hide (lim_no hzb)
    clear hzb
    go_wp2_with fail
    go_ret2
    refine ⟨?_, K2.out⟩
    rw [HZ.out, RetLim]; rfl
end Go.Proofs.YthmmgjieppknkaaGreatDoor

namespace Go.Proofs.YthmmgjieppknkaaGreatDoor
open Go.RowKit MLab
set_option maxRecDepth 100000 in
set_option maxHeartbeats 4000000 in
theorem gcd_any (w : World) (a b : ByteArray) (x y : Int) (h : Two a b x y) (hs : Std w) :
    Calls Tryz.prog 137 #[.string a, .string b] w fun e w' => e = .returned (.tuple #[.string ⟨(T (Int.gcd x y : Int)).toArray⟩, .int .i64 0]) ∧ Below w.heap.size w w' := by
  have H := hide h
  have HS := hide hs
  clear h hs
  go_enter Tryz.func137, Tryz.ntmps137
  go_wp2_with fail
  refine (all_two _ _ _ x y H.out.ha H.out.hb H.out.bx H.out.bz _).mono ?_
  rintro e w1 ⟨rfl, hb1⟩
  have K1 := hide hb1
  clear hb1
  go_wp2_with fail
  refine (read_any _ _ H.out.ha H.out.bx _).mono ?_
  rintro e w2 ⟨rfl, hb2, mx, dx, hWx, hRx, hmx, hnx⟩
  have A1 := hide hb2
  have A2 := hide hWx
  have A3 := hide hRx
  have A4 := hide hnx
  clear hb2 hWx hRx hnx
  go_wp2_with fail
  refine (read_any _ _ H.out.hb H.out.bz _).mono ?_
  rintro e w3 ⟨rfl, hb3, my, dy, hWy, hRy, hmy, hny⟩
  have B1 := hide hb3
  have B2 := hide hWy
  have B3 := hide hRy
  have B4 := hide hny
  have hlt := A2.out.lt
  have hw1 := K1.out.size
  have hG : Nat.gcd (num dx mx) (num dy my) = Int.gcd x y := by rw [A4.out, hny]; rfl
  obtain ⟨G, hGG⟩ : ∃ G, G = Int.gcd x y := ⟨_, rfl⟩
  rw [← hGG] at hG
  have HG := hide hG
  have HGG := hide hGG
  have KK := hide ((K1.out.trans (A1.out.mono hw1)).trans (hb3.mono (by omega)))
  have A5 := hide (A2.out.below hb3 hlt)
  clear hb3 hWy hRy hny hG hGG
  go_wp2_with fail
  go_loopg [7, 8] (num dy my) (fun k px py wr => ∃ (b1 b2 : Nat) (l1 l2 : Bool) (n1 n2 : Nat) (d1 d2 : Nat → Nat), px = .pointer (some ⟨b1, 0, none⟩) ∧ py = .pointer (some ⟨b2, 0, none⟩) ∧ k = num d2 n2 ∧ w.heap.size ≤ b1 ∧ w.heap.size ≤ b2 ∧ b1 ≠ b2 ∧
    n1 ≤ 230 ∧ n2 ≤ 230 ∧ Wd wr b1 l1 n1 d1 ∧ Wd wr b2 l2 n2 d2 ∧ Rt n1 d1 ∧ Rt n2 d2 ∧ Nat.gcd (num d1 n1) (num d2 n2) = G ∧ Below w.heap.size w wr)
  case atStart => exact ⟨w1.heap.size, w2.heap.size, _, _, mx, my, dx, dy, rfl, rfl, rfl, by omega, by omega, by omega, by omega, by omega, A5.out, B2.out, A3.out, B3.out, HG.out, KK.out⟩
  case round =>
    obtain ⟨b1, b2, l1, l2, n1, n2, d1, d2, rfl, rfl, hk, hb1, hb2, hne, hn1, hn2, hW1, hW2, hR1, hR2, hg, hbl⟩ := hrel
    have c1 : wr.cell? ⟨b1, 1, none⟩ = some (.int .i64 (n1 : Int)) := hW1.cnt
    have c2 : wr.cell? ⟨b2, 1, none⟩ = some (.int .i64 (n2 : Int)) := hW2.cnt
    have HK := hide hk
    have W1 := hide hW1
    have W2 := hide hW2
    have R1 := hide hR1
    have R2 := hide hR2
    have GG := hide hg
    have BL := hide hbl
    clear hk hW1 hW2 hR1 hR2 hg hbl A2 A3 A4 A5 B2 B3 B4
    by_cases h0 : n2 = 0
    · have hd : ¬ (0 < n2) := by omega
      have c3 : wr.cell? ⟨b1, 0, none⟩ = some (.bool l1) := W1.out.sgn
      have f3 : wr.frozen? ⟨b1, 0, none⟩ = false := W1.out.frozen 0
      have hG1 : sval false (num d1 n1) = (G : Int) := by
        have := GG.out
        rw [h0, num_zero, Nat.gcd_zero_right] at this
        rw [← this]; rfl
      have HG1 := hide hG1
      clear hG1 h0
      go_wp2_with fail
      refine (text_any _ _ false _ _ (W1.out.setLess false) R1.out (HS.out.below (BL.out.setCell hb1 _) (Nat.le_refl _))).mono ?_
      rintro e w5 ⟨rfl, hb5⟩
      have K5 := hide ((BL.out.setCell (p := ⟨b1, 0, none⟩) hb1 (.bool false)).trans (hb5.mono (by have := BL.out.size; simpa [World.setCell] using this)))
      clear hb5
      go_wp2_with fail
      go_ret2
      refine ⟨?_, K5.out⟩
      rw [HG1.out, HGG.out]; rfl
    · have hd : 0 < n2 := by omega
      by_cases hsm : n1 ≤ 1 ∧ n2 ≤ 1
      · obtain ⟨hs1, hs2⟩ := hsm
        have i1 : (n1 : Int) ≤ 1 := by omega
        have i2 : (n2 : Int) ≤ 1 := by omega
        have v1 : num d1 n1 = d1 0 := by
          rcases Nat.eq_zero_or_pos n1 with h | h
          · rw [h, R1.out.ends 0 (by omega)]; rfl
          · rw [show n1 = 1 by omega]; simp [num]
        have v2 : num d2 n2 = d2 0 := by rw [show n2 = 1 by omega]; simp [num]
        have hgg : Nat.gcd (d1 0) (d2 0) = G := by rw [← v1, ← v2]; exact GG.out
        have e1 : wr.cell? ⟨b1, 2, none⟩ = some (.int .i64 (d1 0 : Int)) := by have := W1.out.at_ (i := 0) (by omega); simpa using this
        have e2 : wr.cell? ⟨b2, 2, none⟩ = some (.int .i64 (d2 0 : Int)) := by have := W2.out.at_ (i := 0) (by omega); simpa using this
        have t1 : d1 0 < 1000000000 := R1.out.lows 0
        have t2 : d2 0 < 1000000000 := R2.out.lows 0
        have HGR := hide hgg
        clear v1 v2 hgg h0
        go_wp2_with fail
        go_quiet (fail)
        go_wp2_with fail
        go_loopg [9, 10] (d2 0) (fun k pm pn wi => ∃ (m n q : Nat), pm = .int .i64 (m : Int) ∧ pn = .int .i64 (n : Int) ∧ k = n ∧ m < 1000000000 ∧ n < 1000000000 ∧ Nat.gcd m n = G ∧ wi = wr.drewN q)
        case atStart => exact ⟨d1 0, d2 0, _, rfl, rfl, rfl, t1, t2, HGR.out, rfl⟩
        case round =>
          obtain ⟨m, n, q, rfl, rfl, hk, hm, hn, hgmn, rfl⟩ := hrel
          have HK2 := hide hk
          have GMN := hide hgmn
          clear hk hgmn
          by_cases hn0 : n = 0
          · have hz : ((n : Int) != 0) = false := by rw [hn0]; rfl
            have hmg : m = G := by have := GMN.out; rw [hn0, Nat.gcd_zero_right] at this; exact this
            have HMG := hide hmg
            clear hmg hn0
            go_wp2_with fail
            refine (of_any _ (by omega) (by omega) _ (HS.out.below (below_drewN BL.out _) (Nat.le_refl _))).mono ?_
            rintro e w5 ⟨rfl, hb5⟩
            have K5 := hide ((below_drewN BL.out q).trans (hb5.mono (by have := BL.out.size; simpa using this)))
            clear hb5
            go_wp2_with fail
            go_ret2
            refine ⟨?_, K5.out⟩
            rw [← HGG.out, ← HMG.out]; rfl
          · have hz : ((n : Int) != 0) = true := by rw [bne_iff_ne]; omega
            have hz2 : ((n : Int) == 0) = false := by rw [beq_eq_false_iff_ne]; omega
            have hmod : (m : Int).tmod (n : Int) = ((m % n : Nat) : Int) := by rw [Int.tmod_eq_emod_of_nonneg (by omega)]; simp
            have hml : m % n < n := Nat.mod_lt _ (by omega)
            have ew : IntKind.i64.wrap ((m : Int).tmod (n : Int)) = ((m % n : Nat) : Int) := by rw [hmod]; exact IntWalk.i64_in _ ⟨by omega, by omega⟩
            have HMOD := hide hmod
            clear hmod
            go_wp2_with fail
            go_quiet (fail)
            go_wp2_with fail
            go_roundg (m % n)
            case measure => have := HK2.out; omega
            case rel =>
              refine ⟨n, m % n, _, rfl, ?_, rfl, hn, by omega, ?_, World.drewN_drewN _ _ _⟩
              · first | rfl | (rw [HMOD.out]) | (congr 1)
              · rw [Nat.gcd_comm, ← Nat.gcd_rec, Nat.gcd_comm]; exact GMN.out
      · have hpos : 0 < num d2 n2 := Nat.pos_of_ne_zero fun e => h0 ((num_zero_iff R2.out.full).1 e)
        have h230 : n2 ≤ 230 := hn2
        by_cases i1 : n1 ≤ 1
        · have j1 : (n1 : Int) ≤ 1 := by omega
          have j2 : ¬ (n2 : Int) ≤ 1 := by omega
          clear h0 hsm i1
          go_wp2_with fail
          refine (divided_any _ _ _ _ _ _ _ _ _ W1.out W2.out R1.out R2.out hd h230).mono ?_
          rintro e w5 ⟨rfl, hb5, nq, dq, nr, dr, hWq, hWr, hRq, hRr, hnq, hnr⟩
          have hr1 : num dr nr < num d2 n2 := by rw [hnr]; exact Nat.mod_lt _ hpos
          have hr2 : nr ≤ n2 := Nat.le_of_not_lt fun h => by have := full_lt R2.out.lows hRr.full h; omega
          have hgc : Nat.gcd (num d2 n2) (num dr nr) = G := by rw [hnr, Nat.gcd_comm, ← Nat.gcd_rec, Nat.gcd_comm]; exact GG.out
          have D1 := hide hb5
          have D2 := hide hWr
          have D3 := hide hRr
          have D4 := hide hgc
          have l2 := W2.out.lt
          have s5 := BL.out.size
          clear hb5 hWq hWr hRq hRr hnq hnr hgc
          go_wp2_with fail
          go_roundg (num dr nr)
          case measure => have := HK.out; omega
          case rel => exact ⟨b2, wr.heap.size + 1, _, _, n2, nr, d2, dr, rfl, rfl, rfl, hb2, by omega, by omega, by omega, by omega, W2.out.below D1.out l2, D2.out, R2.out, D3.out, D4.out, BL.out.trans (D1.out.mono s5)⟩
        · have j1 : ¬ (n1 : Int) ≤ 1 := by omega
          clear h0 hsm i1
          go_wp2_with fail
          refine (divided_any _ _ _ _ _ _ _ _ _ W1.out W2.out R1.out R2.out hd h230).mono ?_
          rintro e w5 ⟨rfl, hb5, nq, dq, nr, dr, hWq, hWr, hRq, hRr, hnq, hnr⟩
          have hr1 : num dr nr < num d2 n2 := by rw [hnr]; exact Nat.mod_lt _ hpos
          have hr2 : nr ≤ n2 := Nat.le_of_not_lt fun h => by have := full_lt R2.out.lows hRr.full h; omega
          have hgc : Nat.gcd (num d2 n2) (num dr nr) = G := by rw [hnr, Nat.gcd_comm, ← Nat.gcd_rec, Nat.gcd_comm]; exact GG.out
          have D1 := hide hb5
          have D2 := hide hWr
          have D3 := hide hRr
          have D4 := hide hgc
          have l2 := W2.out.lt
          have s5 := BL.out.size
          clear hb5 hWq hWr hRq hRr hnq hnr hgc
          go_wp2_with fail
          go_roundg (num dr nr)
          case measure => have := HK.out; omega
          case rel => exact ⟨b2, wr.heap.size + 1, _, _, n2, nr, d2, dr, rfl, rfl, rfl, hb2, by omega, by omega, by omega, by omega, W2.out.below D1.out l2, D2.out, R2.out, D3.out, D4.out, BL.out.trans (D1.out.mono s5)⟩
theorem cmp_bytes : ∀ (a b : List UInt8), Dig a → Dig b → a.length = b.length → Lib.compareBytes a b = ((val a : Int) - val b).sign
  | [], [], _, _, _ => by simp [Lib.compareBytes, val]
  | [], _ :: _, _, _, h => by simp at h
  | _ :: _, [], _, _, h => by simp at h
  | x :: s, y :: t, hx, hy, h => by
    have hl : s.length = t.length := by simpa using h
    have ih := cmp_bytes s t hx.tail hy.tail hl
    have v1 := val_lt hx.tail
    have v2 := val_lt hy.tail
    have h1 := hx.head
    have h2 := hy.head
    rw [val_cons, val_cons, ← hl]
    rw [← hl] at v2
    generalize 10 ^ s.length = P at *
    rw [Lib.compareBytes]
    by_cases hlt : x < y
    · rw [if_pos hlt]
      have hn : x.toNat < y.toNat := UInt8.lt_iff_toNat_lt.1 hlt
      have := Nat.mul_le_mul_right P (show x.toNat - 48 + 1 ≤ y.toNat - 48 by omega)
      rw [Nat.add_mul, Nat.one_mul] at this
      exact (Int.sign_eq_neg_one_iff_neg.2 (by omega)).symm
    · rw [if_neg hlt]
      by_cases hgt : y < x
      · rw [if_pos hgt]
        have hn : y.toNat < x.toNat := UInt8.lt_iff_toNat_lt.1 hgt
        have := Nat.mul_le_mul_right P (show y.toNat - 48 + 1 ≤ x.toNat - 48 by omega)
        rw [Nat.add_mul, Nat.one_mul] at this
        exact (Int.sign_eq_one_iff_pos.2 (by omega)).symm
      · rw [if_neg hgt, ih]
        have e : x = y := by
          have h3 : ¬ x.toNat < y.toNat := fun h => hlt (UInt8.lt_iff_toNat_lt.2 h)
          have h4 : ¬ y.toNat < x.toNat := fun h => hgt (UInt8.lt_iff_toNat_lt.2 h)
          exact UInt8.toNat_inj.1 (by omega)
        rw [e]
        congr 1
        omega
set_option maxRecDepth 100000 in
set_option maxHeartbeats 1000000 in
theorem order_any (w : World) (s t : ByteArray) (m n : Nat) (hs : s.data.toList = Lib.decDigits m) (ht : t.data.toList = Lib.decDigits n) :
    Calls Tryz.prog 163 #[.string s, .string t] w fun e w' => e = .returned (.int .i64 ((m : Int) - n).sign) ∧ w = w' := by
  have h1 : s.size = (Lib.decDigits m).length := by rw [Lib.size_eq, hs]
  have h2 : t.size = (Lib.decDigits n).length := by rw [Lib.size_eq, ht]
  have p1 := dec_length_pos m
  have p2 := dec_length_pos n
  by_cases he : s.size = t.size
  · have hb : ((s.size : Int) != (t.size : Int)) = false := by rw [he]; simp
    have hc : Lib.compareBytes s.data.toList t.data.toList = ((m : Int) - n).sign := by
      rw [hs, ht, cmp_bytes _ _ (dec_dig _) (dec_dig _) (by omega), val_dec, val_dec]
    have HC := hide hc
    clear hs ht h1 h2 hc he
    go_enter Tryz.func163, Tryz.ntmps163
    go_wp2_with fail
    refine (Tryz.strings_Compare _ _ _).mono ?_
    rintro e w1 ⟨rfl, rfl⟩
    rw [HC.out]
    go_wp2_with fail
    go_ret
    exact ⟨rfl, rfl⟩
  · have hb : ((s.size : Int) != (t.size : Int)) = true := by rw [bne_iff_ne]; omega
    by_cases hlt : s.size < t.size
    · have hli : (s.size : Int) < (t.size : Int) := by omega
      have hmn : m < n := by
        have h3 := pow_le_of_length (n := n) (k := s.size) (by omega) (by omega)
        have h4 := (dec_length_le (n := m) (k := s.size) (by omega)).1 (by omega)
        omega
      have hsg : ((m : Int) - n).sign = -1 := Int.sign_eq_neg_one_iff_neg.2 (by omega)
      rw [hsg]
      clear hs ht h1 h2 he hsg
      go_enter Tryz.func163, Tryz.ntmps163
      go_wp2_with fail
      go_ret
      exact ⟨rfl, rfl⟩
    · have hli : ¬ (s.size : Int) < (t.size : Int) := by omega
      have hmn : n < m := by
        have h3 := pow_le_of_length (n := m) (k := t.size) (by omega) (by omega)
        have h4 := (dec_length_le (n := n) (k := t.size) (by omega)).1 (by omega)
        omega
      have hsg : ((m : Int) - n).sign = 1 := Int.sign_eq_one_iff_pos.2 (by omega)
      rw [hsg]
      clear hs ht h1 h2 he hsg
      go_enter Tryz.func163, Tryz.ntmps163
      go_wp2_with fail
      go_ret
      exact ⟨rfl, rfl⟩
theorem sign_cmp (x y : Int) : (x.sign < y.sign → (x - y).sign = -1) ∧ (y.sign < x.sign → (x - y).sign = 1) ∧ (x.sign = y.sign → x.sign * (((x.natAbs : Int) - y.natAbs).sign) = (x - y).sign) := by
  rcases Int.lt_trichotomy x 0 with hx | hx | hx <;> rcases Int.lt_trichotomy y 0 with hy | hy | hy
  all_goals
    first
      | rw [Int.sign_eq_neg_one_iff_neg.2 hx]
      | rw [Int.sign_eq_one_iff_pos.2 hx]
      | subst hx
    first
      | rw [Int.sign_eq_neg_one_iff_neg.2 hy]
      | rw [Int.sign_eq_one_iff_pos.2 hy]
      | subst hy
    refine ⟨fun h => ?_, fun h => ?_, fun h => ?_⟩
    all_goals first
      | (exfalso; simp at h; done)
      | exact Int.sign_eq_neg_one_iff_neg.2 (by omega)
      | exact Int.sign_eq_one_iff_pos.2 (by omega)
      | (rw [show (x.natAbs : Int) - y.natAbs = -(x - y) by omega, Int.sign_neg]; omega)
      | (rw [show (x.natAbs : Int) - y.natAbs = x - y by omega]; omega)
      | simp
theorem sign_bounds (x : Int) : -1 ≤ x.sign ∧ x.sign ≤ 1 := by
  rcases Int.lt_trichotomy x 0 with h | h | h
  · rw [Int.sign_eq_neg_one_iff_neg.2 h]; decide
  · rw [h]; decide
  · rw [Int.sign_eq_one_iff_pos.2 h]; decide
set_option maxRecDepth 100000 in
set_option maxHeartbeats 2000000 in
theorem compare_any (w : World) (a b : ByteArray) (x y : Int) (h : Two a b x y) :
    Calls Tryz.prog 136 #[.string a, .string b] w fun e w' => e = .returned (.tuple #[.int .i64 (x - y).sign, .int .i64 0]) ∧ Below w.heap.size w w' := by
  have H := hide h
  obtain ⟨s1, s2, s3⟩ := sign_cmp x y
  have S1 := hide s1
  have S2 := hide s2
  have S3 := hide s3
  clear h s1 s2 s3
  go_enter Tryz.func136, Tryz.ntmps136
  go_wp2_with fail
  refine (all_two _ _ _ x y H.out.ha H.out.hb H.out.bx H.out.bz _).mono ?_
  rintro e w1 ⟨rfl, hb1⟩
  have K1 := hide hb1
  clear hb1
  go_wp2_with fail
  refine (sign_any _ _ x H.out.ha).mono ?_
  rintro e w2 ⟨rfl, rfl⟩
  go_wp2_with fail
  refine (sign_any _ _ y H.out.hb).mono ?_
  rintro e w2 ⟨rfl, rfl⟩
  have b1 := sign_bounds x
  have b2 := sign_bounds y
  obtain ⟨c1, c2⟩ := b1
  obtain ⟨c3, c4⟩ := b2
  generalize hp : x.sign = p at *
  generalize hq : y.sign = q at *
  have HP := hide hp
  have HQ := hide hq
  clear hp hq
  by_cases hlt : p < q
  · have hres := S1.out hlt
    have HR := hide hres
    clear hres
    go_wp2_with fail
    go_ret2
    refine ⟨?_, K1.out⟩
    rw [HR.out]; rfl
  · go_wp2_with fail
    refine (sign_any _ _ y H.out.hb).mono ?_
    rintro e w2 ⟨rfl, rfl⟩
    rw [HQ.out]
    by_cases hgt : q < p
    · have hres := S2.out hgt
      have HR := hide hres
      clear hres
      go_wp2_with fail
      go_ret2
      refine ⟨?_, K1.out⟩
      rw [HR.out]; rfl
    · have hres := S3.out (by omega)
      have HR := hide hres
      clear hres
      go_wp2_with fail
      refine (Tryz.strings_TrimPrefix _ _ _).mono ?_
      rintro e w2 ⟨rfl, rfl⟩
      go_wp2_with fail
      refine (Tryz.strings_TrimPrefix _ _ _).mono ?_
      rintro e w2 ⟨rfl, rfl⟩
      go_wp2_with fail
      refine (order_any _ _ _ x.natAbs y.natAbs (by simp only [H.out.ha]; rw [trimPrefix_mag, mag_T]) (by simp only [H.out.hb]; rw [trimPrefix_mag, mag_T])).mono ?_
      rintro e w2 ⟨rfl, rfl⟩
      have b3 := sign_bounds ((x.natAbs : Int) - y.natAbs)
      obtain ⟨c5, c6⟩ := b3
      generalize ((x.natAbs : Int) - y.natAbs).sign = r at *
      have c7 : p * r ≤ 1 ∧ -1 ≤ p * r := by
        have : p = -1 ∨ p = 0 ∨ p = 1 := by omega
        rcases this with h | h | h <;> rw [h] <;> omega
      obtain ⟨c8, c9⟩ := c7
      go_wp2_with fail
      go_ret2
      refine ⟨?_, K1.out⟩
      rw [← HR.out]; rfl
end Go.Proofs.YthmmgjieppknkaaGreatDoor

namespace Go.Proofs.YthmmgjieppknkaaGreatDoor
open Go.RowKit MLab
def RT (q : Rat) : List UInt8 := if q.den = 1 then T q.num else T q.num ++ 47 :: Lib.decDigits q.den
abbrev Sums (w : World) (b : Nat) (e : Int) : Prop := Blk w b 200 #[.int .i64 e]
theorem Sums.err {w : World} {b : Nat} {e : Int} (h : Sums w b e) : w.cell? ⟨b, 0, none⟩ = some (.int .i64 e) := by rw [Blk.cell h]; rfl
theorem Sums.set {w : World} {b : Nat} {e : Int} (h : Sums w b e) (f : Int) : Sums (w.setCell ⟨b, 0, none⟩ (.int .i64 f)) b f := by
  have := Blk.set_ h 0 (.int .i64 f); simpa using this
def doRes (p : List UInt8 × Int) : List UInt8 := if p.2 = 0 then p.1 else [48]
set_option maxRecDepth 100000 in
set_option maxHeartbeats 1000000 in
theorem do_gcd (w : World) (b : Nat) (s t : ByteArray) (p : List UInt8 × Int) (hb : Sums w b 0) (hop : Calls Tryz.prog 137 #[.string s, .string t] w fun e w' => RetLim p e ∧ Below w.heap.size w w') :
    Calls Tryz.prog 141 #[.pointer (some ⟨b, 0, none⟩), .func (.func 137) #[] #[], .string s, .string t] w fun e w' => e = .returned (.string ⟨(doRes p).toArray⟩) ∧ w.grownBy w' (some b) ∧ Sums w' b p.2 := by
  have c0 := hb.err
  have hlt := Blk.lt hb
  have HB := hide hb
  have HOP := hide hop
  clear hb hop
  go_enter Tryz.func141, Tryz.ntmps141
  go_wp2_with fail
  refine HOP.out.mono ?_
  rintro e w1 ⟨hr, hb1⟩
  rw [RetLim] at hr
  subst hr
  have h1 : Sums w1 b 0 := Blk.below HB.out hb1 hlt
  have c1 := Sums.err h1
  have f1 := Blk.frozen h1 0
  have H1 := hide h1
  have K1 := hide hb1
  clear h1 hb1
  by_cases he : p.2 = 0
  · have e1 : (p.2 != 0) = false := by rw [he]; rfl
    have HR := hide (show doRes p = p.1 by rw [doRes, if_pos he])
    clear he
    go_wp2_with fail
    go_ret
    exact ⟨by rw [HR.out]; rfl, only_setCell (only_of_below K1.out _) (.inl rfl) _, H1.out.set _⟩
  · have e1 : (p.2 != 0) = true := by rw [bne_iff_ne]; exact he
    have HR := hide (show doRes p = [48] by rw [doRes, if_neg he])
    clear he
    go_wp2_with fail
    go_ret
    exact ⟨by rw [HR.out]; rfl, only_setCell (only_of_below K1.out _) (.inl rfl) _, H1.out.set _⟩
set_option maxRecDepth 100000 in
set_option maxHeartbeats 1000000 in
theorem do_sub (w : World) (b : Nat) (s t : ByteArray) (p : List UInt8 × Int) (hb : Sums w b 0) (hop : Calls Tryz.prog 81 #[.string s, .string t] w fun e w' => RetLim p e ∧ Below w.heap.size w w') :
    Calls Tryz.prog 141 #[.pointer (some ⟨b, 0, none⟩), .func (.func 81) #[] #[], .string s, .string t] w fun e w' => e = .returned (.string ⟨(doRes p).toArray⟩) ∧ w.grownBy w' (some b) ∧ Sums w' b p.2 := by
  have c0 := hb.err
  have hlt := Blk.lt hb
  have HB := hide hb
  have HOP := hide hop
  clear hb hop
  go_enter Tryz.func141, Tryz.ntmps141
  go_wp2_with fail
  refine HOP.out.mono ?_
  rintro e w1 ⟨hr, hb1⟩
  rw [RetLim] at hr
  subst hr
  have h1 : Sums w1 b 0 := Blk.below HB.out hb1 hlt
  have c1 := Sums.err h1
  have f1 := Blk.frozen h1 0
  have H1 := hide h1
  have K1 := hide hb1
  clear h1 hb1
  by_cases he : p.2 = 0
  · have e1 : (p.2 != 0) = false := by rw [he]; rfl
    have HR := hide (show doRes p = p.1 by rw [doRes, if_pos he])
    clear he
    go_wp2_with fail
    go_ret
    exact ⟨by rw [HR.out]; rfl, only_setCell (only_of_below K1.out _) (.inl rfl) _, H1.out.set _⟩
  · have e1 : (p.2 != 0) = true := by rw [bne_iff_ne]; exact he
    have HR := hide (show doRes p = [48] by rw [doRes, if_neg he])
    clear he
    go_wp2_with fail
    go_ret
    exact ⟨by rw [HR.out]; rfl, only_setCell (only_of_below K1.out _) (.inl rfl) _, H1.out.set _⟩
set_option maxRecDepth 100000 in
set_option maxHeartbeats 1000000 in
theorem do_quo (w : World) (b : Nat) (s t : ByteArray) (p : List UInt8 × Int) (hb : Sums w b 0) (hop : Calls Tryz.prog 130 #[.string s, .string t] w fun e w' => RetLim p e ∧ Below w.heap.size w w') :
    Calls Tryz.prog 141 #[.pointer (some ⟨b, 0, none⟩), .func (.func 130) #[] #[], .string s, .string t] w fun e w' => e = .returned (.string ⟨(doRes p).toArray⟩) ∧ w.grownBy w' (some b) ∧ Sums w' b p.2 := by
  have c0 := hb.err
  have hlt := Blk.lt hb
  have HB := hide hb
  have HOP := hide hop
  clear hb hop
  go_enter Tryz.func141, Tryz.ntmps141
  go_wp2_with fail
  refine HOP.out.mono ?_
  rintro e w1 ⟨hr, hb1⟩
  rw [RetLim] at hr
  subst hr
  have h1 : Sums w1 b 0 := Blk.below HB.out hb1 hlt
  have c1 := Sums.err h1
  have f1 := Blk.frozen h1 0
  have H1 := hide h1
  have K1 := hide hb1
  clear h1 hb1
  by_cases he : p.2 = 0
  · have e1 : (p.2 != 0) = false := by rw [he]; rfl
    have HR := hide (show doRes p = p.1 by rw [doRes, if_pos he])
    clear he
    go_wp2_with fail
    go_ret
    exact ⟨by rw [HR.out]; rfl, only_setCell (only_of_below K1.out _) (.inl rfl) _, H1.out.set _⟩
  · have e1 : (p.2 != 0) = true := by rw [bne_iff_ne]; exact he
    have HR := hide (show doRes p = [48] by rw [doRes, if_neg he])
    clear he
    go_wp2_with fail
    go_ret
    exact ⟨by rw [HR.out]; rfl, only_setCell (only_of_below K1.out _) (.inl rfl) _, H1.out.set _⟩
set_option maxRecDepth 100000 in
set_option maxHeartbeats 1000000 in
theorem do_mul (w : World) (b : Nat) (s t : ByteArray) (p : List UInt8 × Int) (hb : Sums w b 0) (hop : Calls Tryz.prog 127 #[.string s, .string t] w fun e w' => RetLim p e ∧ Below w.heap.size w w') :
    Calls Tryz.prog 141 #[.pointer (some ⟨b, 0, none⟩), .func (.func 127) #[] #[], .string s, .string t] w fun e w' => e = .returned (.string ⟨(doRes p).toArray⟩) ∧ w.grownBy w' (some b) ∧ Sums w' b p.2 := by
  have c0 := hb.err
  have hlt := Blk.lt hb
  have HB := hide hb
  have HOP := hide hop
  clear hb hop
  go_enter Tryz.func141, Tryz.ntmps141
  go_wp2_with fail
  refine HOP.out.mono ?_
  rintro e w1 ⟨hr, hb1⟩
  rw [RetLim] at hr
  subst hr
  have h1 : Sums w1 b 0 := Blk.below HB.out hb1 hlt
  have c1 := Sums.err h1
  have f1 := Blk.frozen h1 0
  have H1 := hide h1
  have K1 := hide hb1
  clear h1 hb1
  by_cases he : p.2 = 0
  · have e1 : (p.2 != 0) = false := by rw [he]; rfl
    have HR := hide (show doRes p = p.1 by rw [doRes, if_pos he])
    clear he
    go_wp2_with fail
    go_ret
    exact ⟨by rw [HR.out]; rfl, only_setCell (only_of_below K1.out _) (.inl rfl) _, H1.out.set _⟩
  · have e1 : (p.2 != 0) = true := by rw [bne_iff_ne]; exact he
    have HR := hide (show doRes p = [48] by rw [doRes, if_neg he])
    clear he
    go_wp2_with fail
    go_ret
    exact ⟨by rw [HR.out]; rfl, only_setCell (only_of_below K1.out _) (.inl rfl) _, H1.out.set _⟩
theorem doRes_ok {z : Int} (h : z.natAbs < Big) : doRes (lim z) = T z := by rw [lim_ok h]; rfl
theorem ret_gcd {w : World} {a b : ByteArray} {x y : Int} (h : Two a b x y) (hs : Std w) :
    Calls Tryz.prog 137 #[.string a, .string b] w fun e w' => RetLim (T (Int.gcd x y : Int), 0) e ∧ Below w.heap.size w w' := gcd_any w a b x y h hs
theorem gcd_pos {x y : Int} (hy : y ≠ 0) : 0 < Int.gcd x y := Int.gcd_pos_of_ne_zero_right _ hy
theorem gcd_big {x y : Int} (hy : y ≠ 0) (h : y.natAbs < Big) : Int.gcd x y < Big :=
  Nat.lt_of_le_of_lt (Nat.le_of_dvd (by omega) (Nat.gcd_dvd_right _ _)) h
def lowG (x y : Int) : Int := if y < 0 then -(Int.gcd x y : Int) else (Int.gcd x y : Int)
theorem lowG_ne {x y : Int} (hy : y ≠ 0) : lowG x y ≠ 0 := by have := gcd_pos (x := x) hy; unfold lowG; split <;> omega
theorem lowG_abs (x y : Int) : (lowG x y).natAbs = Int.gcd x y := by unfold lowG; split <;> omega
theorem low_num {x y : Int} (hy : y ≠ 0) : x.fdiv (lowG x y) = (Rat.divInt x y).num ∧ y.fdiv (lowG x y) = ((Rat.divInt x y).den : Int) := by
  have hg := gcd_pos (x := x) hy
  rw [Rat.num_divInt, Rat.den_divInt, if_neg hy, Int.gcd_comm y x]
  obtain ⟨k, hk⟩ : ((Int.gcd x y : Nat) : Int) ∣ x := Int.gcd_dvd_left _ _
  obtain ⟨m, hm⟩ : ((Int.gcd x y : Nat) : Int) ∣ y := Int.gcd_dvd_right _ _
  unfold lowG
  generalize Int.gcd x y = g at *
  have hg0 : (g : Int) ≠ 0 := by omega
  have hya : y.natAbs = g * m.natAbs := by rw [hm, Int.natAbs_mul]; rfl
  rw [hya, Nat.mul_div_cancel_left _ hg]
  have hms : 0 < m ↔ 0 < y := by
    rw [hm]; constructor
    · intro h; exact Int.mul_pos (by omega) h
    · intro h; exact Int.pos_of_mul_pos_right h (by omega)
  have hm0 : m ≠ 0 := by rintro rfl; simp at hm; exact hy hm
  by_cases hn : y < 0
  · rw [if_pos hn, Int.sign_eq_neg_one_iff_neg.2 hn]
    have hmn : m < 0 := by omega
    constructor
    · have e1 : x = -(g : Int) * (-k) := by rw [hk, Int.neg_mul_neg]
      have e2 : -1 * x = (g : Int) * (-k) := by rw [hk, Int.mul_neg]; omega
      rw [e2, Int.mul_ediv_cancel_left _ hg0, e1, Int.mul_fdiv_cancel_left _ (by omega)]
    · have e1 : y = -(g : Int) * (-m) := by rw [hm, Int.neg_mul_neg]
      rw [e1, Int.mul_fdiv_cancel_left _ (by omega)]; omega
  · rw [if_neg hn, Int.sign_eq_one_iff_pos.2 (by omega), Int.one_mul]
    constructor
    · rw [hk, Int.mul_ediv_cancel_left _ hg0, Int.mul_fdiv_cancel_left _ hg0]
    · rw [hm, Int.mul_fdiv_cancel_left _ hg0]; omega
theorem fdiv_le {x g : Int} (hg : g ≠ 0) (h : x.fdiv g * g = x) : (x.fdiv g).natAbs ≤ x.natAbs := by
  have h1 : (x.fdiv g).natAbs * g.natAbs = x.natAbs := by rw [← Int.natAbs_mul, h]
  have h2 : 1 ≤ g.natAbs := by omega
  have h3 := Nat.mul_le_mul_left (x.fdiv g).natAbs h2
  omega
theorem low_mul (x y : Int) : x.fdiv (lowG x y) * lowG x y = x ∧ y.fdiv (lowG x y) * lowG x y = y := by
  have hx : lowG x y ∣ x := by unfold lowG; split; exact Int.neg_dvd.2 (Int.gcd_dvd_left _ _); exact (Int.gcd_dvd_left _ _)
  have hz : lowG x y ∣ y := by unfold lowG; split; exact Int.neg_dvd.2 (Int.gcd_dvd_right _ _); exact (Int.gcd_dvd_right _ _)
  exact ⟨Int.fdiv_mul_cancel hx, Int.fdiv_mul_cancel hz⟩
theorem low_big {x y : Int} (hy : y ≠ 0) (hx : x.natAbs < Big) (hyb : y.natAbs < Big) : (Rat.divInt x y).num.natAbs < Big ∧ (Rat.divInt x y).den < Big := by
  obtain ⟨h1, h2⟩ := low_num (x := x) hy
  obtain ⟨m1, m2⟩ := low_mul x y
  have a1 := fdiv_le (lowG_ne hy) m1
  have a2 := fdiv_le (lowG_ne hy) m2
  rw [h1] at a1
  rw [h2] at a2
  omega
set_option maxRecDepth 100000 in
set_option maxHeartbeats 1000000 in
theorem joined_any (w : World) (s t : ByteArray) (q : Rat) (hs : s.data.toList = T q.num) (ht : t.data.toList = T (q.den : Int)) (hsz : s.size ≤ 4000) (htz : t.size ≤ 4000) :
    Calls Tryz.prog 167 #[.string s, .string t] w fun e w' => e = .returned (.string ⟨(RT q).toArray⟩) ∧ w = w' := by
  have htl : t.toList = T (q.den : Int) := by rw [Lib.toList_data, ht]
  by_cases h1 : q.den = 1
  · have hb : (t.toList == [49]) = true := by rw [htl, h1, show ((1 : Nat) : Int) = 1 from rfl, T_one]; rfl
    have e : s = ⟨(RT q).toArray⟩ := ba_eq (by rw [hs, RT, if_pos h1])
    have E := hide e
    clear hs ht htl e h1
    go_enter Tryz.func167, Tryz.ntmps167
    go_wp2_with fail
    go_ret
    exact ⟨by rw [← E.out]; rfl, rfl⟩
  · have hb : (t.toList == [49]) = false := by
      rw [beq_eq_false_iff_ne, htl]; intro e
      have := T_inj (e.trans T_one.symm)
      omega
    have e : s ++ (⟨#[47]⟩ : ByteArray) ++ t = ⟨(RT q).toArray⟩ := ba_eq (by
      rw [ByteArray.data_append, ByteArray.data_append, Array.toList_append, Array.toList_append, hs, ht, RT, if_neg h1, T_nat, List.append_assoc]; rfl)
    have E := hide e
    clear hs ht htl e h1
    go_enter Tryz.func167, Tryz.ntmps167
    go_wp2_with fail
    go_ret
    exact ⟨by rw [← E.out]; rfl, rfl⟩
theorem T_size {s : ByteArray} {z : Int} (h : s.data.toList = T z) (hz : z.natAbs < Big) : s.size ≤ 1025 := by rw [Lib.size_eq, h]; exact T_len_big hz
set_option maxRecDepth 100000 in
set_option maxHeartbeats 1000000 in
theorem ssub_any (w : World) (b : Nat) (s t : ByteArray) (x y : Int) (h : Two s t x y) (hr : (x - y).natAbs < Big) (hb : Sums w b 0) (hs : Std w) :
    Calls Tryz.prog 106 #[.pointer (some ⟨b, 0, none⟩), .string s, .string t] w fun e w' => e = .returned (.string ⟨(T (x - y)).toArray⟩) ∧ w.grownBy w' (some b) ∧ Sums w' b 0 := by
  have h1 := do_sub w b s t _ hb (sub_any w s t x y h hs)
  rw [doRes_ok hr, lim_ok hr] at h1
  have H1 := hide h1
  clear h1 hb h hs hr
  go_enter Tryz.func106, Tryz.ntmps106
  go_wp2_with fail
  refine H1.out.mono ?_
  rintro e w1 ⟨rfl, hg, hS⟩
  have K1 := hide hg
  have K2 := hide hS
  clear hg hS
  go_wp2_with fail
  go_ret
  exact ⟨rfl, K1.out, K2.out⟩
set_option maxRecDepth 100000 in
set_option maxHeartbeats 2000000 in

theorem lowest_any (w : World) (b : Nat) (s t : ByteArray) (x y : Int) (h : Two s t x y) (hy : y ≠ 0) (hb : Sums w b 0) (hs : ∀ W, w.grownBy W (some b) → Std W) :
    Calls Tryz.prog 140 #[.pointer (some ⟨b, 0, none⟩), .string s, .string t] w fun e w' => e = .returned (.string ⟨(RT (Rat.divInt x y)).toArray⟩) ∧ w.grownBy w' (some b) ∧ Sums w' b 0 := by
  have H := hide h
  have HY := hide hy
  have HS := hide hs
  have HB := hide hb
  have hgb := gcd_big (x := x) hy h.bz
  have HGB := hide hgb
  obtain ⟨l1, l2⟩ := low_num (x := x) hy
  have L1 := hide l1
  have L2 := hide l2
  obtain ⟨b1, b2⟩ := low_big (x := x) hy h.bx h.bz
  have hpre : Lib.hasPrefix t.data.toList [45] = decide (y < 0) := by
    rw [h.hb]
    have := T_head_neg (z := y)
    unfold Lib.hasPrefix
    cases hT : T y with
    | nil => exact absurd hT (T_ne y)
    | cons c r =>
      rw [hT] at this
      simp only [List.head?_cons, Option.some.injEq] at this
      simp only [List.isPrefixOf, Bool.and_true]
      rw [Bool.eq_iff_iff, beq_iff_eq, decide_eq_true_eq, ← this]
      exact ⟨fun e => e.symm, fun e => e.symm⟩
  have HP := hide hpre
  clear h hy hs hb hgb l1 l2 hpre
  go_enter Tryz.func140, Tryz.ntmps140
  go_wp2_with fail
  refine (do_gcd _ _ _ _ _ HB.out (ret_gcd H.out (HS.out _ (only_refl _ _)))).mono ?_
  rintro e w1 ⟨rfl, hg1, hS1⟩
  have G1 := hide hg1
  have S1 := hide hS1
  clear hg1 hS1
  go_wp2_with fail
  refine (Tryz.strings_HasPrefix _ _ _).mono ?_
  rintro e w2 ⟨rfl, rfl⟩
  rw [HP.out]
  go_upto_if 13 with (fail)
  go_cut [7] (fun v wc => v = .string ⟨(T (lowG x y)).toArray⟩ ∧ w.grownBy wc (some b) ∧ Sums wc b 0)
  case first =>
    by_cases hn : y < 0
    · have hd : decide (y < 0) = true := by simpa using hn
      rw [hd]
      have hl : lowG x y = 0 - (Int.gcd x y : Int) := by rw [lowG, if_pos hn]; omega
      have HL := hide hl
      clear hn hd hl
      go_wp2_with fail
      refine (ssub_any _ _ _ _ 0 (Int.gcd x y : Int) ⟨T_zero.symm, rfl, by have := HGB.out; omega, by have := HGB.out; omega⟩ (by have := HGB.out; omega) S1.out (HS.out _ G1.out)).mono ?_
      rintro e w3 ⟨rfl, hg3, hS3⟩
      rw [← HL.out]
      have G3 := hide (only_trans G1.out hg3)
      have S3 := hide hS3
      clear hg3 hS3
      go_wp2_with fail
      go_meet
      case rel => exact ⟨rfl, G3.out, S3.out⟩
    · have hd : decide (y < 0) = false := by simpa using hn
      rw [hd]
      have hl : (Int.gcd x y : Int) = lowG x y := by rw [lowG, if_neg hn]
      rw [show doRes (T (Int.gcd x y : Int), 0) = T (Int.gcd x y : Int) from rfl, hl]
      clear hn hd hl
      go_wp2_with fail
      go_meet
      case rel => exact ⟨rfl, G1.out, S1.out⟩
  case rest =>
    obtain ⟨rfl, hg, hS⟩ := hcut
    have c0 := Sums.err hS
    have hlg : (lowG x y).natAbs < Big := by rw [lowG_abs]; exact HGB.out
    have hne := lowG_ne (x := x) HY.out
    have q1 := quo_any wc s ⟨(T (lowG x y)).toArray⟩ x (lowG x y) ⟨H.out.ha, rfl, H.out.bx, hlg⟩ hne (HS.out _ hg)
    rw [L1.out] at q1
    have Q1 := hide q1
    have G2 := hide hg
    have S2 := hide hS
    have HLG := hide hlg
    have HNE := hide hne
    clear hg hS hlg hne q1 G1 S1
    go_wp2_with fail
    refine (do_quo _ _ _ _ _ S2.out Q1.out).mono ?_
    rintro e w3 ⟨rfl, hg3, hS3⟩
    rw [doRes_ok b1]
    rw [lim_ok b1] at hS3
    have G3 := hide (only_trans G2.out hg3)
    have S3 := hide hS3
    clear hg3 hS3 Q1
    have q2 := quo_any w3 t ⟨(T (lowG x y)).toArray⟩ y (lowG x y) ⟨H.out.hb, rfl, H.out.bz, HLG.out⟩ HNE.out (HS.out _ G3.out)
    rw [L2.out] at q2
    have Q2 := hide q2
    clear q2
    go_wp2_with fail
    refine (do_quo _ _ _ _ _ S3.out Q2.out).mono ?_
    rintro e w4 ⟨rfl, hg4, hS4⟩
    rw [doRes_ok (z := ((Rat.divInt x y).den : Int)) b2]
    rw [lim_ok (z := ((Rat.divInt x y).den : Int)) b2] at hS4
    have G4 := hide (only_trans G3.out hg4)
    have S4 := hide hS4
    clear hg4 hS4 Q2
    go_wp2_with fail
    refine (joined_any _ _ _ (Rat.divInt x y) rfl rfl (by have := T_size (s := ⟨(T (Rat.divInt x y).num).toArray⟩) rfl b1; omega) (by have := T_size (s := ⟨(T ((Rat.divInt x y).den : Int)).toArray⟩) (z := ((Rat.divInt x y).den : Int)) rfl b2; omega)).mono ?_
    rintro e w5 ⟨rfl, rfl⟩
    go_wp2_with fail
    go_ret
    exact ⟨rfl, G4.out, S4.out⟩
def RetRat (q : Rat) (e : Ending) : Prop := e = .returned (.tuple #[.string ⟨(RT q).toArray⟩, .int .i64 0])
set_option maxRecDepth 100000 in
set_option maxHeartbeats 2000000 in
theorem make_any (w : World) (s t : ByteArray) (x y : Int) (h : Two s t x y) (hy : y ≠ 0) (hs : Std w) :
    Calls Tryz.prog 128 #[.string s, .string t] w fun e w' => RetRat (Rat.divInt x y) e ∧ Below w.heap.size w w' := by
  have H := hide h
  have HS := hide hs
  have HY := hide hy
  have hb0 : (t.toList == [48]) = false := by
    rw [Lib.toList_data, h.hb, beq_eq_false_iff_ne]; intro e; exact hy (T_inj (e.trans T_zero.symm))
  have c1 := chk_T x
  have c2 := chk_T y
  rw [if_pos h.bx] at c1
  rw [if_pos h.bz] at c2
  have C1 := hide c1
  have C2 := hide c2
  clear h hs hy c1 c2
  go_enter Tryz.func128, Tryz.ntmps128
  go_upto_region 2 with (fail)
  have hblk := Blk.new w 116 #[.string s, .string t]
  have hbl : Below w.heap.size w (w.alloc (.cells #[.string s, .string t] 116)) := (Below.refl _ _).alloc (Nat.le_refl _) _
  generalize (w.alloc (.cells #[.string s, .string t] 116)) = w0 at *
  have BLK := hide hblk
  have BEL := hide hbl
  clear hblk hbl
  go_wp2_with fail
  go_loopg [15] 2 (fun k i wr => ∃ j : Nat, i = .int .i64 (j : Int) ∧ k + j = 2 ∧ Below w0.heap.size w0 wr)
  case atStart => exact ⟨0, rfl, rfl, Below.refl _ _⟩
  case round =>
    obtain ⟨j, rfl, hk, hb⟩ := hrel
    have HK := hide hk
    have HB := hide hb
    have hblk := BLK.out.below hb (Blk.lt BLK.out)
    have k0 : wr.cell? ⟨w.heap.size, 0, none⟩ = some (.string s) := by rw [hblk.cell]; rfl
    have k1 : wr.cell? ⟨w.heap.size, 1, none⟩ = some (.string t) := by rw [hblk.cell]; rfl
    clear hk hb hblk
    have hj : j = 0 ∨ j = 1 ∨ j = 2 := by have := HK.out; omega
    rcases hj with rfl | rfl | rfl
    · go_wp2_with fail
      refine (check_any s _ H.out.ha (by have := T_size H.out.ha H.out.bx; omega) _).mono ?_
      rintro e w2 ⟨rfl, hb2⟩
      rw [C1.out]
      have K2 := hide (HB.out.trans (hb2.mono HB.out.size))
      clear hb2
      go_wp2_with fail
      go_roundg 1
      case measure => have := HK.out; omega
      case rel => exact ⟨1, rfl, rfl, K2.out⟩
    · go_wp2_with fail
      refine (check_any t _ H.out.hb (by have := T_size H.out.hb H.out.bz; omega) _).mono ?_
      rintro e w2 ⟨rfl, hb2⟩
      rw [C2.out]
      have K2 := hide (HB.out.trans (hb2.mono HB.out.size))
      clear hb2
      go_wp2_with fail
      go_roundg 0
      case measure => have := HK.out; omega
      case rel => exact ⟨2, rfl, rfl, K2.out⟩
    · go_wp2_with fail
      have hch : Below w.heap.size w (wr.alloc (.cells #[.int .i64 0] 200)) := (BEL.out.trans (HB.out.mono BEL.out.size)).alloc (Nat.le_trans BEL.out.size HB.out.size) _
      have hle : w.heap.size ≤ wr.heap.size := Nat.le_trans BEL.out.size HB.out.size
      have hbw : ∀ W, (wr.alloc (.cells #[.int .i64 0] 200)).grownBy W (some wr.heap.size) → Below w.heap.size w W := fun W hg => below_only hch hg (by simp; omega) hle
      have HBW := hide hbw
      clear hch hbw
      refine (lowest_any _ wr.heap.size s t x y H.out HY.out (Blk.new wr _ _) (fun W hg => HS.out.below (HBW.out W hg) (Nat.le_refl _))).mono ?_
      rintro e w4 ⟨rfl, hg4, hS4⟩
      have c4 := Sums.err hS4
      have K4 := hide (HBW.out _ hg4)
      clear hg4 hS4
      go_wp2_with fail
      go_ret2
      exact ⟨rfl, K4.out⟩
end Go.Proofs.YthmmgjieppknkaaGreatDoor

namespace Go.Proofs.YthmmgjieppknkaaGreatDoor
open Go.RowKit MLab
abbrev tx (z : Int) : Value := .string ⟨(T z).toArray⟩
theorem twoT {x y : Int} (hx : x.natAbs < Big) (hy : y.natAbs < Big) : Two ⟨(T x).toArray⟩ ⟨(T y).toArray⟩ x y := ⟨rfl, rfl, hx, hy⟩
theorem addT_any (w : World) (x y : Int) (hx : x.natAbs < Big) (hy : y.natAbs < Big) (hz : (x + y).natAbs < Big) (hs : Std w) :
    Calls Tryz.prog 124 #[tx x, tx y] w fun e w' => e = .returned (.tuple #[tx (x + y), .int .i64 0]) ∧ Below w.heap.size w w' := by
  refine (add_any w _ _ x y (twoT hx hy) hs).mono ?_
  rintro e w' ⟨h, hb⟩
  rw [lim_ok hz] at h
  exact ⟨h, hb⟩
theorem mulT_any (w : World) (x y : Int) (hx : x.natAbs < Big) (hy : y.natAbs < Big) (hz : (x * y).natAbs < Big) (hs : Std w) :
    Calls Tryz.prog 127 #[tx x, tx y] w fun e w' => e = .returned (.tuple #[tx (x * y), .int .i64 0]) ∧ Below w.heap.size w w' := by
  refine (mul_any w _ _ x y (twoT hx hy) hs).mono ?_
  rintro e w' ⟨h, hb⟩
  rw [lim_ok hz] at h
  exact ⟨h, hb⟩
theorem quoT_any (w : World) (x y z : Int) (hx : x.natAbs < Big) (hy : y.natAbs < Big) (h0 : y ≠ 0) (hxy : x = z * y) (hz : z.natAbs < Big) (hs : Std w) :
    Calls Tryz.prog 130 #[tx x, tx y] w fun e w' => e = .returned (.tuple #[tx z, .int .i64 0]) ∧ Below w.heap.size w w' := by
  refine (quo_any w _ _ x y (twoT hx hy) h0 hs).mono ?_
  rintro e w' ⟨h, hb⟩
  have hq : x.fdiv y = z := by rw [hxy]; exact Int.mul_fdiv_cancel _ h0
  rw [hq, lim_ok hz] at h
  exact ⟨h, hb⟩
end Go.Proofs.YthmmgjieppknkaaGreatDoor
