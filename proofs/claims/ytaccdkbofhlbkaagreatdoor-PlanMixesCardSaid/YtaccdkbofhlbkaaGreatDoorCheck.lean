/- whole.Check says whether a text is an integer. -/
import Derived.Test.YtaccdkbofhlbkaaGreatDoorBuilder
namespace Go.Proofs.YtaccdkbofhlbkaaGreatDoor
open Go.RowKit MLab

theorem trim_any (s : ByteArray) (hs : s.size ≤ 9223372036854775807) (w : World) :
    Calls Tryz.prog 139 #[.string s, .string ⟨#[48, 49, 50, 51, 52, 53, 54, 55, 56, 57]⟩] w fun e w' => e = .returned (.string ⟨(Lib.trimS s.data.toList [48, 49, 50, 51, 52, 53, 54, 55, 56, 57]).toArray⟩) ∧ Below w.heap.size w w' :=
  Any.strings_Trim_laid Tryz.lays160 (by kernel_rfl) s ⟨#[48, 49, 50, 51, 52, 53, 54, 55, 56, 57]⟩ w hs (by decide) (ascii_of_all (by decide))

theorem getElem_head {g : ByteArray} {m : List UInt8} (hg : g.data.toList = m) (h : 0 < g.size) : m.head? = some (g[0]'h) := by
  rw [← hg, List.head?_eq_getElem?, Array.getElem?_toList]
  exact Array.getElem?_eq_getElem h

set_option maxRecDepth 100000 in
set_option maxHeartbeats 1000000 in
theorem check_any (s : ByteArray) (l : List UInt8) (hl : s.data.toList = l) (hsz : s.size ≤ 9223372036854775807) (w : World) :
    Calls Tryz.prog 108 #[.string s] w fun e w' => e = .returned (.int .i64 (chk l)) ∧ Below w.heap.size w w' := by
  have hsl : s.toList = l := by rw [Lib.toList_data, hl]
  have HL := hide hl
  have HSL := hide hsl
  clear hl hsl
  go_enter Tryz.func108, Tryz.ntmps108
  go_wp2_with fail
  refine (Tryz.strings_TrimPrefix _ _ _).mono ?_
  rintro e w1 ⟨rfl, rfl⟩
  generalize hg : (⟨(Lib.trimPrefix s.data.toList [45]).toArray⟩ : ByteArray) = g
  have hgm : g.data.toList = mag l := by rw [← hg, HL.out, trimPrefix_mag]
  have hgl : g.toList = mag l := by rw [Lib.toList_data, hgm]
  have hgs : g.size = (mag l).length := by rw [Lib.size_eq, hgm]
  have hgz : g.size ≤ 9223372036854775807 := by
    rw [Lib.size_eq, HL.out] at hsz
    rw [hgs]
    unfold mag; split
    · simp at hsz; omega
    · exact hsz
  have HG := hide hgm
  have HGL := hide hgl
  have HGS := hide hgs
  clear hg hgm hgl hgs
  go_wp2_with fail
  · go_ret
    refine ⟨?_, Below.refl _ _⟩
    have h : g.toList = [] := by assumption
    rw [HGL.out] at h
    rw [chk, if_pos (.inl h)]; rfl
  · refine (trim_any _ hgz _).mono ?_
    rintro e w2 ⟨rfl, hb2⟩
    have hne : ¬ g.toList = [] := by assumption
    have hem : g.toList.isEmpty = false := by cases h : g.toList <;> simp_all
    have hrd : (Lib.trimS g.data.toList [48, 49, 50, 51, 52, 53, 54, 55, 56, 57] = []) ↔ digB (mag l) = true := by rw [HG.out]; exact trimS_digits
    generalize hr : (⟨(Lib.trimS g.data.toList [48, 49, 50, 51, 52, 53, 54, 55, 56, 57]).toArray⟩ : ByteArray) = r
    have hrl : r.toList = Lib.trimS g.data.toList [48, 49, 50, 51, 52, 53, 54, 55, 56, 57] := by rw [← hr, Lib.toList_data]
    rw [← hrl] at hrd
    have HR := hide hrd
    have hpos : 0 < g.size := by
      rw [HGS.out]
      rw [HGL.out] at hne
      exact List.length_pos_iff.2 hne
    have hm1 : ¬ mag l = [] := by rw [← HGL.out]; exact hne
    have hhd := getElem_head HG.out hpos
    have HM1 := hide hm1
    have HHD := hide hhd
    clear hr hrl hrd hne hm1 hhd
    by_cases hd : digB (mag l) = true
    · have hr0 : r.toList.isEmpty = true := by rw [HR.out.2 hd]; rfl
      have hr1 : (!r.toList.isEmpty) = false := by rw [hr0]; rfl
      have h1 : ¬ (mag l = [] ∨ digB (mag l) = false) := by rintro (h | h); exact HM1.out h; rw [hd] at h; cases h
      have H1 := hide h1
      clear h1 hd hr0
      by_cases hz : (g[0].toNat : Int) = 48
      · have hh : (mag l).head? = some 48 := by rw [HHD.out]; congr 1; exact UInt8.toNat_inj.1 (by simp; omega)
        by_cases h48 : l = [48]
        · have hs1 : (!(s.toList == [48])) = false := by rw [HSL.out, h48]; rfl
          have hgs : ¬ (1024 : Int) < (g.size : Int) := by rw [HGS.out, h48]; simp [mag]
          have H4 := hide h48
          clear h48
          go_wp2_with fail
          go_ret
          refine ⟨?_, hb2⟩
          rw [H4.out]; rfl
        · have hs1 : (!(s.toList == [48])) = true := by rw [HSL.out]; simpa using h48
          have H4 := hide h48
          have HH := hide hh
          clear h48 hh
          go_wp2_with fail
          go_ret
          refine ⟨?_, hb2⟩
          rw [chk, if_neg H1.out, if_pos ⟨HH.out, H4.out⟩]; rfl
      · have hh : ¬ ((mag l).head? = some 48 ∧ l ≠ [48]) := by
          rintro ⟨h, _⟩; rw [HHD.out] at h; injection h with h; rw [h] at hz; exact hz rfl
        have HH := hide hh
        clear hh
        by_cases hlong : 1024 < g.size
        · have hli : (1024 : Int) < (g.size : Int) := by omega
          go_wp2_with fail
          go_ret
          refine ⟨?_, hb2⟩
          rw [chk, if_neg H1.out, if_neg HH.out, if_pos (by rw [← HGS.out]; exact hlong)]; rfl
        · have hli : ¬ (1024 : Int) < (g.size : Int) := by omega
          go_wp2_with fail
          go_ret
          refine ⟨?_, hb2⟩
          rw [chk, if_neg H1.out, if_neg HH.out, if_neg (by rw [← HGS.out]; exact hlong)]; rfl
    · have hdf : digB (mag l) = false := by cases h : digB (mag l) <;> simp_all
      have hr0 : r.toList.isEmpty = false := by
        cases h : r.toList with
        | nil => exact absurd (HR.out.1 h) hd
        | cons a t => rfl
      have hr1 : (!r.toList.isEmpty) = true := by rw [hr0]; rfl
      have HD := hide hdf
      clear hd hdf hr0
      go_wp2_with fail
      go_ret
      refine ⟨?_, hb2⟩
      rw [chk, if_pos (.inr HD.out)]; rfl
end Go.Proofs.YtaccdkbofhlbkaaGreatDoor
