/- metrolabref01.Check. metrolabref01.Order, metrolabref02.Check. -/
import Derived.Test.YtaccdkbofhlbkaaGreatDoorCheck
import Derived.Test.YtaccdkbofhlbkaaGreatDoorRarith
import Derived.Test.YtaccdkbofhlbkaaGreatDoorRcheck
import Derived.Test.YtaccdkbofhlbkaaGreatDoorRone
namespace Go.Proofs.YtaccdkbofhlbkaaGreatDoor
open Go.RowKit MLab

set_option maxRecDepth 100000 in
set_option maxHeartbeats 4000000 in
theorem rchk_any (w : World) (s : ByteArray) (l : List UInt8) (hl : s.data.toList = l) (hsz : s.size ≤ 1000000000000) :
    Calls Tryz.prog 79 #[.string s] w fun e w' => e = .returned (.int .i64 (chk l)) ∧ w = w' := by
  have hls : s.size = l.length := by rw [Lib.size_eq, hl]
  have hsz1 := rsize_any w s l hl hsz
  obtain ⟨g, hg⟩ : ∃ g : ByteArray, (⟨(mag l).toArray⟩ : ByteArray) = g := ⟨_, rfl⟩
  have hgm : g.data.toList = mag l := by rw [← hg]
  have hgl : g.toList = mag l := by rw [Lib.toList_data, hgm]
  have hgs : g.size = (mag l).length := by rw [Lib.size_eq, hgm]
  rw [hg] at hsz1
  have HSZ := hide hsz1
  have HGM := hide hgm
  have HGS := hide hgs
  have hml : (mag l).length ≤ l.length := by unfold mag; split <;> simp
  have hgle : g.size ≤ 1000000000000 := by omega
  clear hg hsz1
  by_cases h0 : mag l = []
  · have hg0 : g.toList = [] := by rw [hgl, h0]
    have HC3 := hide (show chk l = 3 by rw [chk, if_pos (.inl h0)])
    clear h0 hgl hgm hgs hl
    go_enter Tryz.func79, Tryz.ntmps79
    go_wp2_with fail
    refine HSZ.out.mono ?_
    rintro e w1 ⟨rfl, rfl⟩
    go_wp2_with fail
    go_ret
    exact ⟨by rw [HC3.out]; rfl, rfl⟩
  · have hg0 : ¬ g.toList = [] := by rw [hgl]; exact h0
    have hpos : 0 < g.size := by rw [hgs]; exact List.length_pos_iff.2 h0
    have hem : g.toList.isEmpty = false := by cases h : g.toList with | nil => exact absurd h hg0 | cons a r => rfl
    have hhd := getElem_head hgm hpos
    have HNE := hide h0
    have hli : g.size ≤ 1 ∧ s.size ≤ 1 → (g[0]'hpos).toNat = 48 → l = [48] := by
      rintro ⟨_, h2⟩ h3
      have h4 : (mag l).length = 1 := by omega
      have h5 : l.length = 1 := by omega
      match l, h5 with
      | [b], _ =>
        have h6 : mag [b] = [b] := by
          unfold mag
          split
          · rename_i t ht
            injection ht with e1 e2
            subst e2
            rw [e1] at h4
            simp [mag] at h4
          · rfl
        rw [h6] at hhd
        simp only [List.head?_cons, Option.some.injEq] at hhd
        rw [← hhd] at h3
        rw [UInt8.toNat_inj.1 (show b.toNat = (48 : UInt8).toNat from h3)]
    have h3of : (mag l).head? = some 48 → l ≠ [48] → chk l = 3 := by
      intro a b
      by_cases hd : mag l = [] ∨ digB (mag l) = false
      · rw [chk, if_pos hd]
      · rw [chk, if_neg hd, if_pos ⟨a, b⟩]
    by_cases hz : ((g[0]'hpos).toNat : Int) = 48
    · have hh : (mag l).head? = some 48 := by rw [hhd]; congr 1; exact UInt8.toNat_inj.1 (by simp; omega)
      by_cases h1 : 1 < g.size
      · have h1i : (1 : Int) < (g.size : Int) := by omega
        have HC3 := hide (h3of hh (by intro h; rw [h] at hgs; simp [mag] at hgs; omega))
        clear hgl hgm hgs hl hhd hli h3of hh h0
        go_enter Tryz.func79, Tryz.ntmps79
        go_wp2_with fail
        refine HSZ.out.mono ?_
        rintro e w1 ⟨rfl, rfl⟩
        go_wp2_with fail
        go_ret
        exact ⟨by rw [HC3.out]; rfl, rfl⟩
      · have h1i : ¬ (1 : Int) < (g.size : Int) := by omega
        by_cases h2 : 1 < s.size
        · have h2i : (1 : Int) < (s.size : Int) := by omega
          have HC3 := hide (h3of hh (by intro h; rw [h] at hls; simp at hls; omega))
          clear hgl hgm hgs hl hhd hli h3of hh h0
          go_enter Tryz.func79, Tryz.ntmps79
          go_wp2_with fail
          refine HSZ.out.mono ?_
          rintro e w1 ⟨rfl, rfl⟩
          go_wp2_with fail
          go_ret
          exact ⟨by rw [HC3.out]; rfl, rfl⟩
        · have h2i : ¬ (1 : Int) < (s.size : Int) := by omega
          have HBAD := hide (show ¬ ((mag l).head? = some 48 ∧ l ≠ [48]) from fun h => h.2 (hli ⟨by omega, by omega⟩ (by omega)))
          clear hgl hgm hgs hl hhd hli h3of hh h0
          go_enter Tryz.func79, Tryz.ntmps79
          go_wp2_with fail
          refine HSZ.out.mono ?_
          rintro e w1 ⟨rfl, rfl⟩
          go_wp2_with fail
          go_loopg [4] g.size (fun q iv wr => ∃ j : Nat, iv = .int .i64 (j : Int) ∧ q + j = g.size ∧ (∀ k b, k < j → (mag l)[k]? = some b → 48 ≤ b.toNat ∧ b.toNat ≤ 57) ∧ wr = w)
          case atStart => exact ⟨0, rfl, rfl, fun k b h => by omega, rfl⟩
          case round =>
            obtain ⟨j, rfl, hq, hok, rfl⟩ := hrel
            have hj : j ≤ g.size := by omega
            have HQ := hide hq
            have HOK := hide hok
            clear hq hok
            by_cases hlt : j < g.size
            · have hji : (j : Int) < (g.size : Int) := by omega
              have hgj : (mag l)[j]? = some (g[j]'hlt) := by
                rw [← HGM.out, Array.getElem?_toList]
                exact Array.getElem?_eq_getElem hlt
              have HGJ := hide hgj
              clear hgj
              by_cases h48 : ((g[j]'hlt).toNat : Int) < 48
              · have HB := hide h48
                go_wp2_with fail
                go_ret
                refine ⟨?_, rfl⟩
                have hd : digB (mag l) = false := by
                  rw [← Bool.not_eq_true]
                  intro h
                  have := (List.all_eq_true.1 h _ (List.mem_of_getElem? HGJ.out))
                  have h2 := of_decide_eq_true this
                  have := HB.out
                  omega
                rw [chk, if_pos (.inr hd)]; rfl
              · by_cases h57 : (57 : Int) < ((g[j]'hlt).toNat : Int)
                · have HB := hide h57
                  go_wp2_with fail
                  go_ret
                  refine ⟨?_, rfl⟩
                  have hd : digB (mag l) = false := by
                    rw [← Bool.not_eq_true]
                    intro h
                    have := (List.all_eq_true.1 h _ (List.mem_of_getElem? HGJ.out))
                    have h2 := of_decide_eq_true this
                    have := HB.out
                    omega
                  rw [chk, if_pos (.inr hd)]; rfl
                · have HB1 := hide h48
                  have HB2 := hide h57
                  go_wp2_with fail
                  go_roundg (gk - 1)
                  case measure => have := HQ.out; omega
                  case rel =>
                    refine ⟨j + 1, by go_num, by have := HQ.out; omega, fun k b hk hb => ?_, rfl⟩
                    by_cases e : k = j
                    · rw [e, HGJ.out] at hb
                      injection hb with hb
                      rw [← hb]
                      have := HB1.out
                      have := HB2.out
                      exact ⟨by omega, by omega⟩
                    · exact HOK.out k b (by omega) hb
            · have hji : ¬ (j : Int) < (g.size : Int) := by omega
              have hd : digB (mag l) = true := by
                unfold digB
                rw [List.all_eq_true]
                intro b hb
                obtain ⟨k, hk, rfl⟩ := List.mem_iff_getElem.1 hb
                exact decide_eq_true (HOK.out k _ (by have := HGS.out; omega) (List.getElem?_eq_getElem hk))
              have h1 : ¬ (mag l = [] ∨ digB (mag l) = false) := by
                rintro (h | h)
                · exact HNE.out h
                · rw [hd] at h; cases h
              have H1 := hide h1
              clear hd h1
              by_cases hlong : 1024 < g.size
              · have hli : (1024 : Int) < (g.size : Int) := by omega
                go_wp2_with fail
                go_ret
                refine ⟨?_, rfl⟩
                rw [chk, if_neg H1.out, if_neg HBAD.out, if_pos (by rw [← HGS.out]; exact hlong)]; rfl
              · have hli : ¬ (1024 : Int) < (g.size : Int) := by omega
                go_wp2_with fail
                go_ret
                refine ⟨?_, rfl⟩
                rw [chk, if_neg H1.out, if_neg HBAD.out, if_neg (by rw [← HGS.out]; exact hlong)]; rfl
    · have HBAD := hide (show ¬ ((mag l).head? = some 48 ∧ l ≠ [48]) by
        rintro ⟨h, _⟩; rw [hhd] at h; injection h with h; rw [h] at hz; exact hz rfl)
      clear hgl hgm hgs hl hhd hli h3of h0
      go_enter Tryz.func79, Tryz.ntmps79
      go_wp2_with fail
      refine HSZ.out.mono ?_
      rintro e w1 ⟨rfl, rfl⟩
      go_wp2_with fail
      go_loopg [4] g.size (fun q iv wr => ∃ j : Nat, iv = .int .i64 (j : Int) ∧ q + j = g.size ∧ (∀ k b, k < j → (mag l)[k]? = some b → 48 ≤ b.toNat ∧ b.toNat ≤ 57) ∧ wr = w)
      case atStart => exact ⟨0, rfl, rfl, fun k b h => by omega, rfl⟩
      case round =>
        obtain ⟨j, rfl, hq, hok, rfl⟩ := hrel
        have hj : j ≤ g.size := by omega
        have HQ := hide hq
        have HOK := hide hok
        clear hq hok
        by_cases hlt : j < g.size
        · have hji : (j : Int) < (g.size : Int) := by omega
          have hgj : (mag l)[j]? = some (g[j]'hlt) := by
            rw [← HGM.out, Array.getElem?_toList]
            exact Array.getElem?_eq_getElem hlt
          have HGJ := hide hgj
          clear hgj
          by_cases h48 : ((g[j]'hlt).toNat : Int) < 48
          · have HB := hide h48
            go_wp2_with fail
            go_ret
            refine ⟨?_, rfl⟩
            have hd : digB (mag l) = false := by
              rw [← Bool.not_eq_true]
              intro h
              have := (List.all_eq_true.1 h _ (List.mem_of_getElem? HGJ.out))
              have h2 := of_decide_eq_true this
              have := HB.out
              omega
            rw [chk, if_pos (.inr hd)]; rfl
          · by_cases h57 : (57 : Int) < ((g[j]'hlt).toNat : Int)
            · have HB := hide h57
              go_wp2_with fail
              go_ret
              refine ⟨?_, rfl⟩
              have hd : digB (mag l) = false := by
                rw [← Bool.not_eq_true]
                intro h
                have := (List.all_eq_true.1 h _ (List.mem_of_getElem? HGJ.out))
                have h2 := of_decide_eq_true this
                have := HB.out
                omega
              rw [chk, if_pos (.inr hd)]; rfl
            · have HB1 := hide h48
              have HB2 := hide h57
              go_wp2_with fail
              go_roundg (gk - 1)
              case measure => have := HQ.out; omega
              case rel =>
                refine ⟨j + 1, by go_num, by have := HQ.out; omega, fun k b hk hb => ?_, rfl⟩
                by_cases e : k = j
                · rw [e, HGJ.out] at hb
                  injection hb with hb
                  rw [← hb]
                  have := HB1.out
                  have := HB2.out
                  exact ⟨by omega, by omega⟩
                · exact HOK.out k b (by omega) hb
        · have hji : ¬ (j : Int) < (g.size : Int) := by omega
          have hd : digB (mag l) = true := by
            unfold digB
            rw [List.all_eq_true]
            intro b hb
            obtain ⟨k, hk, rfl⟩ := List.mem_iff_getElem.1 hb
            exact decide_eq_true (HOK.out k _ (by have := HGS.out; omega) (List.getElem?_eq_getElem hk))
          have h1 : ¬ (mag l = [] ∨ digB (mag l) = false) := by
            rintro (h | h)
            · exact HNE.out h
            · rw [hd] at h; cases h
          have H1 := hide h1
          clear hd h1
          by_cases hlong : 1024 < g.size
          · have hli : (1024 : Int) < (g.size : Int) := by omega
            go_wp2_with fail
            go_ret
            refine ⟨?_, rfl⟩
            rw [chk, if_neg H1.out, if_neg HBAD.out, if_pos (by rw [← HGS.out]; exact hlong)]; rfl
          · have hli : ¬ (1024 : Int) < (g.size : Int) := by omega
            go_wp2_with fail
            go_ret
            refine ⟨?_, rfl⟩
            rw [chk, if_neg H1.out, if_neg HBAD.out, if_neg (by rw [← HGS.out]; exact hlong)]; rfl
end Go.Proofs.YtaccdkbofhlbkaaGreatDoor

namespace Go.Proofs.YtaccdkbofhlbkaaGreatDoor
open Go.RowKit MLab

set_option maxRecDepth 100000 in
set_option maxHeartbeats 1000000 in
theorem rorder_any (w : World) (a b : ByteArray) (x y : Int) (h : RTwo a b x y) (hb : b.size ≤ 799999) :
    Calls Tryz.prog 81 #[.string a, .string b] w fun e w' => e = .returned (.int .i64 (Int.sign (x - y))) ∧ Below w.heap.size w w' := by
  have HM := hide (rminus_int w a b x y h hb)
  obtain ⟨z, hz⟩ : ∃ z : Int, x - y = z := ⟨_, rfl⟩
  rw [hz] at HM ⊢
  clear h hb hz
  rcases Int.lt_trichotomy z 0 with hx | hx | hx
  · have hd := hide (decide_eq_true hx)
    rw [Int.sign_eq_neg_one_of_neg hx]
    have h0 := hide (show T z ≠ [48] from fun e => by have := T_inj (e.trans T_zero.symm); omega)
    clear hx
    go_enter Tryz.func81, Tryz.ntmps81
    go_wp2_with fail
    refine HM.out.mono ?_
    rintro e w1 ⟨rfl, hb1⟩
    have HB := hide hb1
    obtain ⟨t, ht⟩ : ∃ t : ByteArray, (⟨(T z).toArray⟩ : ByteArray) = t := ⟨_, rfl⟩
    have htd : t.data.toList = T z := by rw [← ht]
    have ht0 : (t.toList == [48]) = false := by rw [Lib.toList_data, htd, beq_eq_false_iff_ne]; exact h0.out
    rw [ht]
    have HTD := hide htd
    clear ht htd hb1
    go_wp2_with fail
    refine (rbelow_any _ t z HTD.out).mono ?_
    rw [hd.out]
    rintro e w2 ⟨rfl, rfl⟩
    go_wp2_with fail
    go_ret
    exact ⟨rfl, HB.out⟩
  · subst hx
    go_enter Tryz.func81, Tryz.ntmps81
    go_wp2_with fail
    refine HM.out.mono ?_
    rintro e w1 ⟨rfl, hb1⟩
    have HB := hide hb1
    obtain ⟨t, ht⟩ : ∃ t : ByteArray, (⟨(T 0).toArray⟩ : ByteArray) = t := ⟨_, rfl⟩
    have htd : t.data.toList = T 0 := by rw [← ht]
    have ht0 : (t.toList == [48]) = true := by rw [Lib.toList_data, htd, T_zero]; rfl
    rw [ht]
    clear ht htd hb1
    go_wp2_with fail
    go_ret
    exact ⟨rfl, HB.out⟩
  · have hd := hide (decide_eq_false (show ¬ z < 0 by omega))
    rw [Int.sign_eq_one_of_pos hx]
    have h0 := hide (show T z ≠ [48] from fun e => by have := T_inj (e.trans T_zero.symm); omega)
    clear hx
    go_enter Tryz.func81, Tryz.ntmps81
    go_wp2_with fail
    refine HM.out.mono ?_
    rintro e w1 ⟨rfl, hb1⟩
    have HB := hide hb1
    obtain ⟨t, ht⟩ : ∃ t : ByteArray, (⟨(T z).toArray⟩ : ByteArray) = t := ⟨_, rfl⟩
    have htd : t.data.toList = T z := by rw [← ht]
    have ht0 : (t.toList == [48]) = false := by rw [Lib.toList_data, htd, beq_eq_false_iff_ne]; exact h0.out
    rw [ht]
    have HTD := hide htd
    clear ht htd hb1
    go_wp2_with fail
    refine (rbelow_any _ t z HTD.out).mono ?_
    rw [hd.out]
    rintro e w2 ⟨rfl, rfl⟩
    go_wp2_with fail
    go_ret
    exact ⟨rfl, HB.out⟩

set_option maxRecDepth 100000 in
set_option maxHeartbeats 4000000 in
theorem rrcheck_any (w : World) (s : ByteArray) (l : List UInt8) (hl : s.data.toList = l) (hsz : s.size ≤ 200000) :
    Calls Tryz.prog 33 #[.string s] w fun e w' => e = .returned (.int .i64 (chkR l)) ∧ Below w.heap.size w w' := by
  have hlz : l.length ≤ 200000 := by rw [← hl, ← Lib.size_eq]; exact hsz
  have SPL := hide (rsplit_any w s l hl (by omega))
  have SLA := hide (fun W => rslash_any W s l hl (by omega))
  have zn := numL_len l
  have zd := denL_len l
  obtain ⟨n, hn⟩ : ∃ n : ByteArray, (⟨(numL l).toArray⟩ : ByteArray) = n := ⟨_, rfl⟩
  obtain ⟨d, hd⟩ : ∃ d : ByteArray, (⟨(denL l).toArray⟩ : ByteArray) = d := ⟨_, rfl⟩
  have hnd : n.data.toList = numL l := by rw [← hn]
  have hdd : d.data.toList = denL l := by rw [← hd]
  have zn2 : n.size ≤ 200001 := by rw [Lib.size_eq, hnd]; omega
  have zd2 : d.size ≤ 200001 := by rw [Lib.size_eq, hdd]; omega
  rw [hn, hd] at SPL
  have CN := hide (fun W => rchk_any W n (numL l) hnd (by omega))
  have CD := hide (fun W => rchk_any W d (denL l) hdd (by omega))
  have vn := chk_vals (numL l)
  have vd := chk_vals (denL l)
  clear hl hn hd zn zd
  by_cases e3 : chk (numL l) = 3
  · have HC := hide (show chkR l = 3 by rw [chkR, if_pos (.inl e3)])
    have EN := hide e3
    clear e3 vn vd hnd hdd
    go_enter Tryz.func33, Tryz.ntmps33
    go_wp2_with fail
    refine SPL.out.mono ?_
    rintro e w1 ⟨rfl, hb1⟩
    have HB := hide hb1
    clear hb1
    go_wp2_with fail
    refine (CN.out _).mono ?_
    rw [EN.out]
    rintro e v ⟨rfl, rfl⟩
    go_wp2_with fail
    go_ret
    exact ⟨by rw [HC.out]; rfl, HB.out⟩
  · by_cases f3 : chk (denL l) = 3
    · have HC := hide (show chkR l = 3 by rw [chkR, if_pos (.inr f3)])
      have ED := hide f3
      rcases vn with v0 | v3 | v11
      · have EN := hide v0
        clear v0 e3 f3 vd hnd hdd
        go_enter Tryz.func33, Tryz.ntmps33
        go_wp2_with fail
        refine SPL.out.mono ?_
        rintro e w1 ⟨rfl, hb1⟩
        have HB := hide hb1
        clear hb1
        go_wp2_with fail
        refine (CN.out _).mono ?_
        rw [EN.out]
        rintro e v ⟨rfl, rfl⟩
        go_wp2_with fail
        refine (CD.out _).mono ?_
        rw [ED.out]
        rintro e v ⟨rfl, rfl⟩
        go_wp2_with fail
        go_ret
        exact ⟨by rw [HC.out]; rfl, HB.out⟩
      · exact absurd v3 e3
      · have EN := hide v11
        clear v11 e3 f3 vd hnd hdd
        go_enter Tryz.func33, Tryz.ntmps33
        go_wp2_with fail
        refine SPL.out.mono ?_
        rintro e w1 ⟨rfl, hb1⟩
        have HB := hide hb1
        clear hb1
        go_wp2_with fail
        refine (CN.out _).mono ?_
        rw [EN.out]
        rintro e v ⟨rfl, rfl⟩
        go_wp2_with fail
        refine (CD.out _).mono ?_
        rw [ED.out]
        rintro e v ⟨rfl, rfl⟩
        go_wp2_with fail
        go_ret
        exact ⟨by rw [HC.out]; rfl, HB.out⟩
    · rcases vn with v0 | v3 | v11
      · rcases vd with u0 | u3 | u11
        · obtain ⟨x, hx, hxb⟩ := chk_zero v0
          obtain ⟨y, hy, hyb⟩ := chk_zero u0
          have hcc : chkR l = if wrB l = false then 0 else if 1 < y ∧ Int.gcd x y = 1 then 0 else 3 := by
            rw [chkR, if_neg (by omega), if_neg (by omega), ← hx, ← hy, atoi_T, atoi_T]; rfl
          have hnT : n.data.toList = T x := by rw [hnd, hx]
          have hdT : d.data.toList = T y := by rw [hdd, hy]
          have EN := hide v0
          have ED := hide u0
          by_cases hw : sl l < l.length
          · have hsl : slR l = (sl l : Int) := by rw [slR, if_pos hw]
            have hk0 : (0 : Int) ≤ (sl l : Int) := by omega
            rw [if_neg (by rw [wrB, decide_eq_true hw]; simp)] at hcc
            have HCC := hide hcc
            have HSL := hide hsl
            have TW := hide (show RTwo d ⟨#[49]⟩ y 1 from ⟨hdT, T_one.symm, by omega, by decide⟩)
            have TG := hide (show RTwo n d x y from ⟨hnT, hdT, by omega, by omega⟩)
            clear v0 u0 e3 f3 hcc hsl hw hx hy hnd hdd hnT hdT
            by_cases h1 : 1 < y
            · have hsg : Int.sign (y - 1) = 1 := Int.sign_eq_one_of_pos (by omega)
              have HSG := hide hsg
              clear hsg
              obtain ⟨g, hg⟩ : ∃ g : ByteArray, (⟨(T (Int.gcd x y : Int)).toArray⟩ : ByteArray) = g := ⟨_, rfl⟩
              have hgt : g.toList = T (Int.gcd x y : Int) := by rw [Lib.toList_data, ← hg]
              have HG := hide hg
              clear hg
              by_cases h2 : Int.gcd x y = 1
              · have HC := hide (show chkR l = 0 by rw [HCC.out, if_pos ⟨h1, h2⟩])
                have hg1 : (g.toList == [49]) = true := by rw [hgt, h2, show ((1 : Nat) : Int) = 1 from rfl, T_one]; rfl
                have hg2 : (g.toList != [49]) = false := by rw [bne, hg1]; rfl
                have hg3 : (!(g.toList == [49])) = false := by rw [hg1]; rfl
                clear h1 h2 hgt
                go_enter Tryz.func33, Tryz.ntmps33
                go_wp2_with fail
                refine SPL.out.mono ?_
                rintro e w1 ⟨rfl, hb1⟩
                have HB := hide hb1
                clear hb1
                go_wp2_with fail
                refine (CN.out _).mono ?_
                rw [EN.out]
                rintro e v ⟨rfl, rfl⟩
                go_wp2_with fail
                refine (CD.out _).mono ?_
                rw [ED.out]
                rintro e v ⟨rfl, rfl⟩
                go_wp2_with fail
                refine (CN.out _).mono ?_
                rw [EN.out]
                rintro e v ⟨rfl, rfl⟩
                go_wp2_with fail
                refine (CD.out _).mono ?_
                rw [ED.out]
                rintro e v ⟨rfl, rfl⟩
                go_wp2_with fail
                refine (SLA.out _).mono ?_
                rw [HSL.out]
                rintro e v ⟨rfl, rfl⟩
                go_wp2_with fail
                refine (rorder_any _ d ⟨#[49]⟩ y 1 TW.out (by decide)).mono ?_
                rw [HSG.out]
                rintro e w2 ⟨rfl, hb2⟩
                have HB2 := hide (HB.out.trans (hb2.mono HB.out.size))
                clear hb2
                go_wp2_with fail
                refine (rshared_any _ n d x y TG.out (by omega) (by omega)).mono ?_
                rw [HG.out]
                rintro e w3 ⟨rfl, hb3⟩
                have HB3 := hide (HB2.out.trans (hb3.mono HB2.out.size))
                clear hb3
                go_wp2_with fail
                go_ret
                exact ⟨by rw [HC.out]; rfl, HB3.out⟩
              · have HC := hide (show chkR l = 3 by rw [HCC.out, if_neg (fun h => h2 h.2)])
                have hne : g.toList ≠ [49] := by
                  rw [hgt]; intro h
                  have := T_inj (h.trans T_one.symm)
                  exact h2 (by omega)
                have hg1 : (g.toList == [49]) = false := by rw [beq_eq_false_iff_ne]; exact hne
                have hg2 : (g.toList != [49]) = true := by rw [bne, hg1]; rfl
                have hg3 : (!(g.toList == [49])) = true := by rw [hg1]; rfl
                clear h1 h2 hgt hne
                go_enter Tryz.func33, Tryz.ntmps33
                go_wp2_with fail
                refine SPL.out.mono ?_
                rintro e w1 ⟨rfl, hb1⟩
                have HB := hide hb1
                clear hb1
                go_wp2_with fail
                refine (CN.out _).mono ?_
                rw [EN.out]
                rintro e v ⟨rfl, rfl⟩
                go_wp2_with fail
                refine (CD.out _).mono ?_
                rw [ED.out]
                rintro e v ⟨rfl, rfl⟩
                go_wp2_with fail
                refine (CN.out _).mono ?_
                rw [EN.out]
                rintro e v ⟨rfl, rfl⟩
                go_wp2_with fail
                refine (CD.out _).mono ?_
                rw [ED.out]
                rintro e v ⟨rfl, rfl⟩
                go_wp2_with fail
                refine (SLA.out _).mono ?_
                rw [HSL.out]
                rintro e v ⟨rfl, rfl⟩
                go_wp2_with fail
                refine (rorder_any _ d ⟨#[49]⟩ y 1 TW.out (by decide)).mono ?_
                rw [HSG.out]
                rintro e w2 ⟨rfl, hb2⟩
                have HB2 := hide (HB.out.trans (hb2.mono HB.out.size))
                clear hb2
                go_wp2_with fail
                refine (rshared_any _ n d x y TG.out (by omega) (by omega)).mono ?_
                rw [HG.out]
                rintro e w3 ⟨rfl, hb3⟩
                have HB3 := hide (HB2.out.trans (hb3.mono HB2.out.size))
                clear hb3
                go_wp2_with fail
                go_ret
                exact ⟨by rw [HC.out]; rfl, HB3.out⟩
            · have hsg : Int.sign (y - 1) ≤ 0 := by
                rcases Int.lt_or_eq_of_le (show y - 1 ≤ 0 by omega) with h | h
                · rw [Int.sign_eq_neg_one_of_neg h]; omega
                · rw [h]; decide
              have HC := hide (show chkR l = 3 by rw [HCC.out, if_neg (fun h => h1 h.1)])
              obtain ⟨sg, hsg2⟩ : ∃ z : Int, Int.sign (y - 1) = z := ⟨_, rfl⟩
              rw [hsg2] at hsg
              have HSG := hide hsg2
              clear hsg2 h1
              go_enter Tryz.func33, Tryz.ntmps33
              go_wp2_with fail
              refine SPL.out.mono ?_
              rintro e w1 ⟨rfl, hb1⟩
              have HB := hide hb1
              clear hb1
              go_wp2_with fail
              refine (CN.out _).mono ?_
              rw [EN.out]
              rintro e v ⟨rfl, rfl⟩
              go_wp2_with fail
              refine (CD.out _).mono ?_
              rw [ED.out]
              rintro e v ⟨rfl, rfl⟩
              go_wp2_with fail
              refine (CN.out _).mono ?_
              rw [EN.out]
              rintro e v ⟨rfl, rfl⟩
              go_wp2_with fail
              refine (CD.out _).mono ?_
              rw [ED.out]
              rintro e v ⟨rfl, rfl⟩
              go_wp2_with fail
              refine (SLA.out _).mono ?_
              rw [HSL.out]
              rintro e v ⟨rfl, rfl⟩
              go_wp2_with fail
              refine (rorder_any _ d ⟨#[49]⟩ y 1 TW.out (by decide)).mono ?_
              rw [HSG.out]
              rintro e w2 ⟨rfl, hb2⟩
              have HB2 := hide (HB.out.trans (hb2.mono HB.out.size))
              clear hb2
              go_wp2_with fail
              go_ret
              exact ⟨by rw [HC.out]; rfl, HB2.out⟩
          · have HC := hide (show chkR l = 0 by rw [hcc, if_pos (by rw [wrB, decide_eq_false hw])])
            have HSL := hide (show slR l = -1 by rw [slR, if_neg hw])
            clear v0 u0 e3 f3 hcc hw hx hy hnd hdd hnT hdT
            go_enter Tryz.func33, Tryz.ntmps33
            go_wp2_with fail
            refine SPL.out.mono ?_
            rintro e w1 ⟨rfl, hb1⟩
            have HB := hide hb1
            clear hb1
            go_wp2_with fail
            refine (CN.out _).mono ?_
            rw [EN.out]
            rintro e v ⟨rfl, rfl⟩
            go_wp2_with fail
            refine (CD.out _).mono ?_
            rw [ED.out]
            rintro e v ⟨rfl, rfl⟩
            go_wp2_with fail
            refine (CN.out _).mono ?_
            rw [EN.out]
            rintro e v ⟨rfl, rfl⟩
            go_wp2_with fail
            refine (CD.out _).mono ?_
            rw [ED.out]
            rintro e v ⟨rfl, rfl⟩
            go_wp2_with fail
            refine (SLA.out _).mono ?_
            rw [HSL.out]
            rintro e v ⟨rfl, rfl⟩
            go_wp2_with fail
            go_ret
            exact ⟨by rw [HC.out]; rfl, HB.out⟩
        · exact absurd u3 f3
        · have HC := hide (show chkR l = 11 by rw [chkR, if_neg (by omega), if_pos (.inr (by omega))])
          have EN := hide v0
          have ED := hide u11
          clear v0 u11 e3 f3 hnd hdd
          go_enter Tryz.func33, Tryz.ntmps33
          go_wp2_with fail
          refine SPL.out.mono ?_
          rintro e w1 ⟨rfl, hb1⟩
          have HB := hide hb1
          clear hb1
          go_wp2_with fail
          refine (CN.out _).mono ?_
          rw [EN.out]
          rintro e v ⟨rfl, rfl⟩
          go_wp2_with fail
          refine (CD.out _).mono ?_
          rw [ED.out]
          rintro e v ⟨rfl, rfl⟩
          go_wp2_with fail
          refine (CN.out _).mono ?_
          rw [EN.out]
          rintro e v ⟨rfl, rfl⟩
          go_wp2_with fail
          refine (CD.out _).mono ?_
          rw [ED.out]
          rintro e v ⟨rfl, rfl⟩
          go_wp2_with fail
          go_ret
          exact ⟨by rw [HC.out]; rfl, HB.out⟩
      · exact absurd v3 e3
      · rcases vd with u0 | u3 | u11
        · have HC := hide (show chkR l = 11 by rw [chkR, if_neg (by omega), if_pos (.inl (by omega))])
          have EN := hide v11
          have ED := hide u0
          clear v11 u0 e3 f3 hnd hdd
          go_enter Tryz.func33, Tryz.ntmps33
          go_wp2_with fail
          refine SPL.out.mono ?_
          rintro e w1 ⟨rfl, hb1⟩
          have HB := hide hb1
          clear hb1
          go_wp2_with fail
          refine (CN.out _).mono ?_
          rw [EN.out]
          rintro e v ⟨rfl, rfl⟩
          go_wp2_with fail
          refine (CD.out _).mono ?_
          rw [ED.out]
          rintro e v ⟨rfl, rfl⟩
          go_wp2_with fail
          refine (CN.out _).mono ?_
          rw [EN.out]
          rintro e v ⟨rfl, rfl⟩
          go_wp2_with fail
          go_ret
          exact ⟨by rw [HC.out]; rfl, HB.out⟩
        · exact absurd u3 f3
        · have HC := hide (show chkR l = 11 by rw [chkR, if_neg (by omega), if_pos (.inl (by omega))])
          have EN := hide v11
          have ED := hide u11
          clear v11 u11 e3 f3 hnd hdd
          go_enter Tryz.func33, Tryz.ntmps33
          go_wp2_with fail
          refine SPL.out.mono ?_
          rintro e w1 ⟨rfl, hb1⟩
          have HB := hide hb1
          clear hb1
          go_wp2_with fail
          refine (CN.out _).mono ?_
          rw [EN.out]
          rintro e v ⟨rfl, rfl⟩
          go_wp2_with fail
          refine (CD.out _).mono ?_
          rw [ED.out]
          rintro e v ⟨rfl, rfl⟩
          go_wp2_with fail
          refine (CN.out _).mono ?_
          rw [EN.out]
          rintro e v ⟨rfl, rfl⟩
          go_wp2_with fail
          go_ret
          exact ⟨by rw [HC.out]; rfl, HB.out⟩
end Go.Proofs.YtaccdkbofhlbkaaGreatDoor
