/- metrolabref01.Check. -/
import Derived.Test.YtdkilkliccljeaaGreatDoorRone
import Derived.Test.YtdkilkliccljeaaGreatDoorCheck
namespace Go.Proofs.YtdkilkliccljeaaGreatDoor
open Go.RowKit MLab

set_option maxRecDepth 100000 in
set_option maxHeartbeats 4000000 in
theorem rchk_any (w : World) (s : ByteArray) (l : List UInt8) (hl : s.data.toList = l) (hsz : s.size ≤ 1000000000000) :
    Calls Tryz.prog 64 #[.string s] w fun e w' => e = .returned (.int .i64 (chk l)) ∧ w = w' := by
  have hls : s.size = l.length := by rw [Lib.size_eq, hl]
  have hsz1 := rsize_any w s l hl hsz
  obtain ⟨g, hg⟩ : ∃ g : ByteArray, (⟨(mag l).toArray⟩ : ByteArray) = g := ⟨_, rfl⟩
  have hgm : g.data.toList = mag l := by rw [← hg]
  have hgl : g.toList = mag l := by rw [Lib.toList_data, hgm]
  have hgs : g.size = (mag l).length := by rw [Lib.size_eq, hgm]
  rw [hg] at hsz1
  have HSZ := hide hsz1
  have HGM := hide hgm
  have HGS := hide hgs
  have hml : (mag l).length ≤ l.length := by unfold mag; split <;> simp
  have hgle : g.size ≤ 1000000000000 := by omega
  clear hg hsz1
  by_cases h0 : mag l = []
  · have hg0 : g.toList = [] := by rw [hgl, h0]
    have HC3 := hide (show chk l = 3 by rw [chk, if_pos (.inl h0)])
    clear h0 hgl hgm hgs hl
    go_enter Tryz.func64, Tryz.ntmps64
    go_wp2_with fail
    refine HSZ.out.mono ?_
    rintro e w1 ⟨rfl, rfl⟩
    go_wp2_with fail
    go_ret
    exact ⟨by rw [HC3.out]; rfl, rfl⟩
  · have hg0 : ¬ g.toList = [] := by rw [hgl]; exact h0
    have hpos : 0 < g.size := by rw [hgs]; exact List.length_pos_iff.2 h0
    have hem : g.toList.isEmpty = false := by cases h : g.toList with | nil => exact absurd h hg0 | cons a r => rfl
    have hhd := getElem_head hgm hpos
    have HNE := hide h0
    have hli : g.size ≤ 1 ∧ s.size ≤ 1 → (g[0]'hpos).toNat = 48 → l = [48] := by
      rintro ⟨_, h2⟩ h3
      have h4 : (mag l).length = 1 := by omega
      have h5 : l.length = 1 := by omega
      match l, h5 with
      | [b], _ =>
        have h6 : mag [b] = [b] := by
          unfold mag
          split
          · rename_i t ht
            injection ht with e1 e2
            subst e2
            rw [e1] at h4
            simp [mag] at h4
          · rfl
        rw [h6] at hhd
        simp only [List.head?_cons, Option.some.injEq] at hhd
        rw [← hhd] at h3
        rw [UInt8.toNat_inj.1 (show b.toNat = (48 : UInt8).toNat from h3)]
    have h3of : (mag l).head? = some 48 → l ≠ [48] → chk l = 3 := by
      intro a b
      by_cases hd : mag l = [] ∨ digB (mag l) = false
      · rw [chk, if_pos hd]
      · rw [chk, if_neg hd, if_pos ⟨a, b⟩]
    by_cases hz : ((g[0]'hpos).toNat : Int) = 48
    · have hh : (mag l).head? = some 48 := by rw [hhd]; congr 1; exact UInt8.toNat_inj.1 (by simp; omega)
      by_cases h1 : 1 < g.size
      · have h1i : (1 : Int) < (g.size : Int) := by omega
        have HC3 := hide (h3of hh (by intro h; rw [h] at hgs; simp [mag] at hgs; omega))
        clear hgl hgm hgs hl hhd hli h3of hh h0
        go_enter Tryz.func64, Tryz.ntmps64
        go_wp2_with fail
        refine HSZ.out.mono ?_
        rintro e w1 ⟨rfl, rfl⟩
        go_wp2_with fail
        go_ret
        exact ⟨by rw [HC3.out]; rfl, rfl⟩
      · have h1i : ¬ (1 : Int) < (g.size : Int) := by omega
        by_cases h2 : 1 < s.size
        · have h2i : (1 : Int) < (s.size : Int) := by omega
          have HC3 := hide (h3of hh (by intro h; rw [h] at hls; simp at hls; omega))
          clear hgl hgm hgs hl hhd hli h3of hh h0
          go_enter Tryz.func64, Tryz.ntmps64
          go_wp2_with fail
          refine HSZ.out.mono ?_
          rintro e w1 ⟨rfl, rfl⟩
          go_wp2_with fail
          go_ret
          exact ⟨by rw [HC3.out]; rfl, rfl⟩
        · have h2i : ¬ (1 : Int) < (s.size : Int) := by omega
          have HBAD := hide (show ¬ ((mag l).head? = some 48 ∧ l ≠ [48]) from fun h => h.2 (hli ⟨by omega, by omega⟩ (by omega)))
          clear hgl hgm hgs hl hhd hli h3of hh h0
          go_enter Tryz.func64, Tryz.ntmps64
          go_wp2_with fail
          refine HSZ.out.mono ?_
          rintro e w1 ⟨rfl, rfl⟩
          go_wp2_with fail
          go_loopg [4] g.size (fun q iv wr => ∃ j : Nat, iv = .int .i64 (j : Int) ∧ q + j = g.size ∧ (∀ k b, k < j → (mag l)[k]? = some b → 48 ≤ b.toNat ∧ b.toNat ≤ 57) ∧ wr = w)
          case atStart => exact ⟨0, rfl, rfl, fun k b h => by omega, rfl⟩
          case round =>
            obtain ⟨j, rfl, hq, hok, rfl⟩ := hrel
            have hj : j ≤ g.size := by omega
            have HQ := hide hq
            have HOK := hide hok
            clear hq hok
            by_cases hlt : j < g.size
            · have hji : (j : Int) < (g.size : Int) := by omega
              have hgj : (mag l)[j]? = some (g[j]'hlt) := by
                rw [← HGM.out, Array.getElem?_toList]
                exact Array.getElem?_eq_getElem hlt
              have HGJ := hide hgj
              clear hgj
              by_cases h48 : ((g[j]'hlt).toNat : Int) < 48
              · have HB := hide h48
                go_wp2_with fail
                go_ret
                refine ⟨?_, rfl⟩
                have hd : digB (mag l) = false := by
                  rw [← Bool.not_eq_true]
                  intro h
                  have := (List.all_eq_true.1 h _ (List.mem_of_getElem? HGJ.out))
                  have h2 := of_decide_eq_true this
                  have := HB.out
                  omega
                rw [chk, if_pos (.inr hd)]; rfl
              · by_cases h57 : (57 : Int) < ((g[j]'hlt).toNat : Int)
                · have HB := hide h57
                  go_wp2_with fail
                  go_ret
                  refine ⟨?_, rfl⟩
                  have hd : digB (mag l) = false := by
                    rw [← Bool.not_eq_true]
                    intro h
                    have := (List.all_eq_true.1 h _ (List.mem_of_getElem? HGJ.out))
                    have h2 := of_decide_eq_true this
                    have := HB.out
                    omega
                  rw [chk, if_pos (.inr hd)]; rfl
                · have HB1 := hide h48
                  have HB2 := hide h57
                  go_wp2_with fail
                  go_roundg (gk - 1)
                  case measure => have := HQ.out; omega
                  case rel =>
                    refine ⟨j + 1, by go_num, by have := HQ.out; omega, fun k b hk hb => ?_, rfl⟩
                    by_cases e : k = j
                    · rw [e, HGJ.out] at hb
                      injection hb with hb
                      rw [← hb]
                      have := HB1.out
                      have := HB2.out
                      exact ⟨by omega, by omega⟩
                    · exact HOK.out k b (by omega) hb
            · have hji : ¬ (j : Int) < (g.size : Int) := by omega
              have hd : digB (mag l) = true := by
                unfold digB
                rw [List.all_eq_true]
                intro b hb
                obtain ⟨k, hk, rfl⟩ := List.mem_iff_getElem.1 hb
                exact decide_eq_true (HOK.out k _ (by have := HGS.out; omega) (List.getElem?_eq_getElem hk))
              have h1 : ¬ (mag l = [] ∨ digB (mag l) = false) := by
                rintro (h | h)
                · exact HNE.out h
                · rw [hd] at h; cases h
              have H1 := hide h1
              clear hd h1
              by_cases hlong : 1024 < g.size
              · have hli : (1024 : Int) < (g.size : Int) := by omega
                go_wp2_with fail
                go_ret
                refine ⟨?_, rfl⟩
                rw [chk, if_neg H1.out, if_neg HBAD.out, if_pos (by rw [← HGS.out]; exact hlong)]; rfl
              · have hli : ¬ (1024 : Int) < (g.size : Int) := by omega
                go_wp2_with fail
                go_ret
                refine ⟨?_, rfl⟩
                rw [chk, if_neg H1.out, if_neg HBAD.out, if_neg (by rw [← HGS.out]; exact hlong)]; rfl
    · have HBAD := hide (show ¬ ((mag l).head? = some 48 ∧ l ≠ [48]) by
        rintro ⟨h, _⟩; rw [hhd] at h; injection h with h; rw [h] at hz; exact hz rfl)
      clear hgl hgm hgs hl hhd hli h3of h0
      go_enter Tryz.func64, Tryz.ntmps64
      go_wp2_with fail
      refine HSZ.out.mono ?_
      rintro e w1 ⟨rfl, rfl⟩
      go_wp2_with fail
      go_loopg [4] g.size (fun q iv wr => ∃ j : Nat, iv = .int .i64 (j : Int) ∧ q + j = g.size ∧ (∀ k b, k < j → (mag l)[k]? = some b → 48 ≤ b.toNat ∧ b.toNat ≤ 57) ∧ wr = w)
      case atStart => exact ⟨0, rfl, rfl, fun k b h => by omega, rfl⟩
      case round =>
        obtain ⟨j, rfl, hq, hok, rfl⟩ := hrel
        have hj : j ≤ g.size := by omega
        have HQ := hide hq
        have HOK := hide hok
        clear hq hok
        by_cases hlt : j < g.size
        · have hji : (j : Int) < (g.size : Int) := by omega
          have hgj : (mag l)[j]? = some (g[j]'hlt) := by
            rw [← HGM.out, Array.getElem?_toList]
            exact Array.getElem?_eq_getElem hlt
          have HGJ := hide hgj
          clear hgj
          by_cases h48 : ((g[j]'hlt).toNat : Int) < 48
          · have HB := hide h48
            go_wp2_with fail
            go_ret
            refine ⟨?_, rfl⟩
            have hd : digB (mag l) = false := by
              rw [← Bool.not_eq_true]
              intro h
              have := (List.all_eq_true.1 h _ (List.mem_of_getElem? HGJ.out))
              have h2 := of_decide_eq_true this
              have := HB.out
              omega
            rw [chk, if_pos (.inr hd)]; rfl
          · by_cases h57 : (57 : Int) < ((g[j]'hlt).toNat : Int)
            · have HB := hide h57
              go_wp2_with fail
              go_ret
              refine ⟨?_, rfl⟩
              have hd : digB (mag l) = false := by
                rw [← Bool.not_eq_true]
                intro h
                have := (List.all_eq_true.1 h _ (List.mem_of_getElem? HGJ.out))
                have h2 := of_decide_eq_true this
                have := HB.out
                omega
              rw [chk, if_pos (.inr hd)]; rfl
            · have HB1 := hide h48
              have HB2 := hide h57
              go_wp2_with fail
              go_roundg (gk - 1)
              case measure => have := HQ.out; omega
              case rel =>
                refine ⟨j + 1, by go_num, by have := HQ.out; omega, fun k b hk hb => ?_, rfl⟩
                by_cases e : k = j
                · rw [e, HGJ.out] at hb
                  injection hb with hb
                  rw [← hb]
                  have := HB1.out
                  have := HB2.out
                  exact ⟨by omega, by omega⟩
                · exact HOK.out k b (by omega) hb
        · have hji : ¬ (j : Int) < (g.size : Int) := by omega
          have hd : digB (mag l) = true := by
            unfold digB
            rw [List.all_eq_true]
            intro b hb
            obtain ⟨k, hk, rfl⟩ := List.mem_iff_getElem.1 hb
            exact decide_eq_true (HOK.out k _ (by have := HGS.out; omega) (List.getElem?_eq_getElem hk))
          have h1 : ¬ (mag l = [] ∨ digB (mag l) = false) := by
            rintro (h | h)
            · exact HNE.out h
            · rw [hd] at h; cases h
          have H1 := hide h1
          clear hd h1
          by_cases hlong : 1024 < g.size
          · have hli : (1024 : Int) < (g.size : Int) := by omega
            go_wp2_with fail
            go_ret
            refine ⟨?_, rfl⟩
            rw [chk, if_neg H1.out, if_neg HBAD.out, if_pos (by rw [← HGS.out]; exact hlong)]; rfl
          · have hli : ¬ (1024 : Int) < (g.size : Int) := by omega
            go_wp2_with fail
            go_ret
            refine ⟨?_, rfl⟩
            rw [chk, if_neg H1.out, if_neg HBAD.out, if_neg (by rw [← HGS.out]; exact hlong)]; rfl
end Go.Proofs.YtdkilkliccljeaaGreatDoor
