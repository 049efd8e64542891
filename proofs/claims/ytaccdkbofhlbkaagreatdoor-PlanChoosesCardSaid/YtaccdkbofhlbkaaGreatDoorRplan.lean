/- metrolabref54.Found, Chance, Left: samples counted. -/
import Derived.Test.YtaccdkbofhlbkaaGreatDoorRlists
import Derived.Test.YtaccdkbofhlbkaaGreatDoorPlopp
namespace Go.Proofs.YtaccdkbofhlbkaaGreatDoor
open Go.RowKit Go.Shelf MLab

theorem foundL_snoc (b : Nat) : ∀ (l : List Nat) (x : Nat), foundL b (l ++ [x]) = foundL b l + if x < b then 1 else 0
  | [], x => by simp [foundL]
  | y :: l, x => by
    show (if y < b then 1 else 0) + foundL b (l ++ [x]) = (if y < b then 1 else 0) + foundL b l + _
    rw [foundL_snoc b l x, Nat.add_assoc]
theorem totL_snoc (f : Nat → Nat) : ∀ (l : List Nat) (x : Nat), totL f (l ++ [x]) = totL f l + f x
  | [], x => by simp [totL]
  | y :: l, x => by
    show f y + totL f (l ++ [x]) = f y + totL f l + f x
    rw [totL_snoc f l x, Nat.add_assoc]
theorem totL_le (f : Nat → Nat) (m : Nat) : ∀ (l : List Nat), (∀ x, x ∈ l → f x ≤ m) → totL f l ≤ l.length * m
  | [], _ => by simp [totL]
  | y :: l, h => by
    show f y + totL f l ≤ (l.length + 1) * m
    rw [Nat.add_mul]
    have h1 := h y (.head _)
    have h2 := totL_le f m l (fun x hx => h x (.tail _ hx))
    omega
theorem countL_pos {j : Nat} : ∀ {l : List Nat}, j ∈ l → 0 < countL j l
  | x :: l, h => by
    show 0 < (if x = j then 1 else 0) + countL j l
    rcases List.mem_cons.1 h with rfl | h
    · rw [if_pos rfl]; omega
    · have := countL_pos h; omega
/-- No more bad parts are found than there are. -/
theorem found_le_bad {lot N bad : Nat} (h9 : lot ≤ 9) (hN : N ≤ lot) (hb : bad ≤ lot) {l : List Nat} (hl : l ∈ listsL lot N) : foundL bad l ≤ bad := by
  have h1 : foundL bad l ∈ (listsL lot N).map (foundL bad) := List.mem_map.2 ⟨l, hl, rfl⟩
  have h2 := foundL_le bad l
  rw [listsL_length lot N l hl] at h2
  have h3 := (lists_spec h9 hN hb).2 (foundL bad l) h2
  have h4 := countL_pos h1
  rw [h3] at h4
  by_cases h : foundL bad l ≤ bad
  · exact h
  · rw [bin_far (by omega), Nat.zero_mul] at h4; omega
/-- The sum of what is left in accepted lots. -/
theorem lists_out {lot N bad C : Nat} (h9 : lot ≤ 9) (hN : N ≤ lot) (hb : bad ≤ lot) (hC : C ≤ N) :
    totL (fun k => if k ≤ C then bad - k else 0) ((listsL lot N).map (foundL bad)) = outN bad (lot - bad) N C := by
  rw [lists_tot h9 hN hb]
  have h1 : sumN (fun k => bin bad k * bin (lot - bad) (N - k) * (if k ≤ C then bad - k else 0)) (N + 1) = sumN (fun k => (bin bad k * bin (lot - bad) (N - k) * (bad - k)) * (if k ≤ C then 1 else 0)) (N + 1) :=
    sumN_congr fun k hk => by split <;> simp
  rw [h1, sumN_cut (fun k => bin bad k * bin (lot - bad) (N - k) * (bad - k)) hC]
  unfold outN
  by_cases h : C ≤ bad
  · rw [Nat.min_eq_left h]
  · rw [Nat.min_eq_right (by omega)]
    obtain ⟨d, hd⟩ : ∃ d, C + 1 = bad + 1 + d := ⟨C - bad, by omega⟩
    rw [hd, sumN_split]
    have : sumN (fun i => bin bad (bad + 1 + i) * bin (lot - bad) (N - (bad + 1 + i)) * (bad - (bad + 1 + i))) d = 0 := sumN_zero fun i hi => by rw [bin_far (n := bad) (k := bad + 1 + i) (by omega)]; simp
    omega

set_option maxRecDepth 100000 in
set_option maxHeartbeats 2000000 in
theorem found_any (w : World) (v : Value) (l : List Nat) (hv : IxL w v l) (hL : l.length ≤ 1000000) (b : Nat) :
    Calls Tryz.prog 93 #[v, .int .i64 (b : Int)] w fun e w' => e = .returned (.int .i64 ((foundL b l : Nat) : Int)) ∧ Below w.heap.size w w' := by
  obtain ⟨A, c, rfl, hc⟩ := hv
  have HC := hide hc
  clear hc
  go_enter Tryz.func93, Tryz.ntmps93
  go_wp2_with fail
  go_loopg [5, 6] l.length (fun z nv iv wr => ∃ j : Nat, iv = .int .i64 (j : Int) ∧ z + j = l.length ∧ nv = .int .i64 ((foundL b (l.take j) : Nat) : Int) ∧ Below w.heap.size w wr)
  case atStart => exact ⟨0, rfl, rfl, rfl, Below.refl _ _⟩
  case round =>
    obtain ⟨j, rfl, hq, rfl, hb⟩ := hrel
    have HQ := hide hq
    have HB := hide hb
    have hjL : j ≤ l.length := by omega
    have hfl := foundL_le b (l.take j)
    rw [List.length_take] at hfl
    obtain ⟨m, hm⟩ : ∃ m, foundL b (l.take j) = m := ⟨_, rfl⟩
    rw [hm] at hfl ⊢
    have HM := hide hm
    clear hq hb hm
    by_cases hlt : j < l.length
    · have hji : (j : Int) < (l.length : Int) := by omega
      have hj0 : (0 : Int) ≤ (j : Int) := by omega
      obtain ⟨x, hx⟩ : ∃ x, l[j]? = some x := ⟨_, List.getElem?_eq_getElem hlt⟩
      obtain ⟨g, rfl, hcell⟩ := HC.out (by omega)
      have c1 := hcell j x hx
      have c2 := (bcell HB.out _ _ (block_lt_of_cell c1)).trans c1
      have hsn := foundL_snoc b (l.take j) x
      rw [HM.out] at hsn
      have hst : l.take (j + 1) = l.take j ++ [x] := by rw [List.take_add_one, hx]; rfl
      rw [← hst] at hsn
      have hwm : IntKind.i64.wrap ((m : Int) + 1) = ((m + 1 : Nat) : Int) := (IntWalk.i64_in _ (by omega)).trans (by omega)
      have HSN := hide hsn
      obtain ⟨m1, hm1⟩ : ∃ k : Nat, m + 1 = k := ⟨_, rfl⟩
      rw [hm1] at hwm
      have HM1 := hide hm1
      clear hx hcell c1 hsn hst HC hm1 hfl
      by_cases hxb : x < b
      · have hxi : (x : Int) < (b : Int) := by omega
        have HXB := hide hxb
        clear hxb
        go_wp2_with fail
        go_roundg (gk - 1)
        case measure => have := HQ.out; omega
        case rel => exact ⟨j + 1, by go_num, by have := HQ.out; omega, by rw [HSN.out, if_pos HXB.out, HM1.out], HB.out⟩
      · have hxi : ¬ (x : Int) < (b : Int) := by omega
        have HXB := hide hxb
        clear hxb
        go_wp2_with fail
        go_roundg (gk - 1)
        case measure => have := HQ.out; omega
        case rel => exact ⟨j + 1, by go_num, by have := HQ.out; omega, by rw [HSN.out, if_neg HXB.out, Nat.add_zero], HB.out⟩
    · have hji : ¬ (j : Int) < (l.length : Int) := by omega
      have hjl : j = l.length := by omega
      have hr : foundL b l = m := by rw [← HM.out, hjl, List.take_length]
      have HR := hide hr
      clear hjl hr hlt hfl
      go_wp2_with fail
      go_ret
      exact ⟨by rw [HR.out]; rfl, HB.out⟩

set_option maxRecDepth 100000 in
set_option maxHeartbeats 8000000 in
theorem chance_any (w : World) (N C lot bad : Nat) (h9 : lot ≤ 9) (hN : N ≤ lot) (hC : C ≤ N) (hbl : bad ≤ lot) :
    Calls Tryz.prog 46 #[.agg #[.int .i64 (N : Int), .int .i64 (C : Int)], .int .i64 (lot : Int), .int .i64 (bad : Int)] w fun e w' => e = .returned (.string ⟨(RT (accQ bad (lot - bad) N C)).toArray⟩) ∧ Below w.heap.size w w' := by
  have HL := hide (fun W => lists_any lot h9 N hN W)
  have hlen := (lists_spec h9 hN hbl).1
  have hfb : ∀ l, l ∈ listsL lot N → foundL bad l ≤ bad := fun l hl => found_le_bad h9 hN hbl hl
  have hln : ∀ l, l ∈ listsL lot N → l.length = N := fun l hl => listsL_length lot N l hl
  have hfew := lists_few h9 hN
  have HFIN := hide (lists_acc h9 hN hbl hC)
  obtain ⟨P, hP⟩ : ∃ P, listsL lot N = P := ⟨_, rfl⟩
  rw [hP] at HL hlen hfb hln hfew HFIN
  have HFB := hide hfb
  have HLN := hide hln
  have HLEN := hide hlen
  clear hP hlen hfb hln
  have HB := allocs_below w [.cells #[.int .i64 (N : Int), .int .i64 (C : Int)] 23]
  have K_p : Blk (allocs w [.cells #[.int .i64 (N : Int), .int .i64 (C : Int)] 23]) (w.heap.size + 0) 23 #[.int .i64 (N : Int), .int .i64 (C : Int)] := allocs_at w [.cells #[.int .i64 (N : Int), .int .i64 (C : Int)] 23] 0 rfl
  unfold allocs at HB K_p
  simp only [List.foldl_cons, List.foldl_nil] at HB K_p
  rw [Nat.add_zero] at K_p
  go_enter Tryz.func46, Tryz.ntmps46
  go_upto_region 1 with (fail)
  generalize (w.alloc (.cells #[.int .i64 (N : Int), .int .i64 (C : Int)] 23)) = w0 at *
  replace K_p := hide K_p
  replace HB := hide HB
  have p0 := (Blk.cell K_p.out 0).trans (rfl : _ = some (Value.int .i64 (N : Int)))
  have p1 := (Blk.cell K_p.out 1).trans (rfl : _ = some (Value.int .i64 (C : Int)))
  go_wp2_with fail
  refine (HL.out _).mono ?_
  rintro e w1 ⟨v, rfl, ⟨rows, hv, hrows⟩, hb⟩
  obtain ⟨A, c, rfl, hAc⟩ : ∃ A c, v = .slice A P.length c ∧ ∀ (j : Nat) (u : Value), rows[j]? = some u → ∃ g, A = some ⟨g, 0, none⟩ ∧ w1.cell? ⟨g, j, none⟩ = some u := by
    rcases own_shape hv with ⟨rfl, h0, hr⟩ | ⟨g, c, rfl, _, _, hc⟩
    · exact ⟨none, 0, by rw [h0], fun j u hj => by rw [hr] at hj; simp at hj⟩
    · exact ⟨some ⟨g, 0, none⟩, c, rfl, fun j u hj => ⟨g, rfl, hc j u hj⟩⟩
  have HROW := hide hrows
  have HAC := hide hAc
  clear hv hrows hAc
  clear p0 p1
  replace K_p := hide (Blk.below K_p.out hb (Blk.lt K_p.out))
  replace HB := hide (HB.out.trans (hb.mono HB.out.size))
  clear hb
  have KP1 := K_p
  have HB1 := HB
  go_wp2_with fail
  go_loopg [8, 9] P.length (fun z nv iv wr => ∃ j : Nat, iv = .int .i64 (j : Int) ∧ z + j = P.length ∧ nv = .int .i64 ((totL (fun k => if k ≤ C then 1 else 0) ((P.take j).map (foundL bad)) : Nat) : Int) ∧ Below w1.heap.size w1 wr)
  case atStart => exact ⟨0, rfl, rfl, rfl, Below.refl _ _⟩
  case round =>
    obtain ⟨j, rfl, hq, rfl, hb⟩ := hrel
    have HQ := hide hq
    have HBL := hide hb
    have hjL : j ≤ P.length := by omega
    have hmt := totL_le (fun k => if k ≤ C then 1 else 0) 1 ((P.take j).map (foundL bad)) (fun x hx => by split <;> omega)
    rw [List.length_map, List.length_take] at hmt
    obtain ⟨t, ht⟩ : ∃ m, totL (fun k => if k ≤ C then 1 else 0) ((P.take j).map (foundL bad)) = m := ⟨_, rfl⟩
    rw [ht] at hmt ⊢
    have htb : t ≤ 512 * 10 := by
      have h2 : min j P.length * 1 ≤ 512 * 10 := Nat.mul_le_mul (by omega) (by omega)
      omega
    have HT := hide ht
    replace K_p := hide (Blk.below KP1.out hb (Blk.lt KP1.out))
    replace HB := hide (HB1.out.trans (hb.mono HB1.out.size))
    clear hq hb ht hmt
    by_cases hlt : j < P.length
    · skip
      have hji : (j : Int) < (P.length : Int) := by omega
      have hj0 : (0 : Int) ≤ (j : Int) := by omega
      obtain ⟨l, hl⟩ : ∃ l, P[j]? = some l := ⟨_, List.getElem?_eq_getElem hlt⟩
      obtain ⟨u, hu, hur⟩ := HROW.out.2 j l hl
      obtain ⟨g, rfl, hcell⟩ := HAC.out j u hu
      have c1 := (bcell HBL.out _ _ (block_lt_of_cell hcell)).trans hcell
      have hux := IxL.of_row hur rfl
      have hux2 := hux.below HBL.out
      have hml := HLN.out l (List.mem_of_getElem? hl)
      have hmf := HFB.out l (List.mem_of_getElem? hl)
      have hst : (P.take (j + 1)).map (foundL bad) = (P.take j).map (foundL bad) ++ [foundL bad l] := by rw [List.take_add_one, hl, List.map_append]; rfl
      have hsn := totL_snoc (fun k => if k ≤ C then 1 else 0) ((P.take j).map (foundL bad)) (foundL bad l)
      rw [← hst, HT.out] at hsn
      have HF := hide (fun W (hW : Below wr.heap.size wr W) => found_any W u l (hux2.below hW) (by omega) bad)
      obtain ⟨A2, c2, rfl⟩ := hux.shape
      obtain ⟨k, hk⟩ : ∃ k, foundL bad l = k := ⟨_, rfl⟩
      rw [hk] at HF hsn hmf
      have HSN := hide hsn
      clear hu hur hcell hux hux2 hl hst hsn hk hml HROW HAC HLN HFB
      by_cases hkc : k ≤ C
      · skip
        have hki : (k : Int) ≤ (C : Int) := by omega
        have HKC := hide hkc
        clear hkc
        have hwt : IntKind.i64.wrap ((t : Int) + 1) = ((t + 1 : Nat) : Int) := (IntWalk.i64_in _ (by omega)).trans (by omega)
        obtain ⟨t1, ht1⟩ : ∃ x, t + 1 = x := ⟨_, rfl⟩
        rw [ht1] at hwt
        have HT1 := hide ht1
        clear ht1
        have p0 := (Blk.cell K_p.out 0).trans (rfl : _ = some (Value.int .i64 (N : Int)))
        have p1 := (Blk.cell K_p.out 1).trans (rfl : _ = some (Value.int .i64 (C : Int)))
        have SK : ∀ w', Below wr.heap.size wr w' → Below wr.heap.size wr w' ∧ w'.cell? ⟨g, j, none⟩ = some (.slice A2 l.length c2) ∧ w'.cell? ⟨w.heap.size, 1, none⟩ = some (.int .i64 (C : Int)) := fun w' h => ⟨h, (bcell h _ _ (block_lt_of_cell c1)).trans c1, (bcell h _ _ (block_lt_of_cell p1)).trans p1⟩
        clear p0
        go_upto_region 6 with (fail)
        go_region_held3 (fun w' => Below wr.heap.size wr w' ∧ w'.cell? ⟨g, j, none⟩ = some (.slice A2 l.length c2) ∧ w'.cell? ⟨w.heap.size, 1, none⟩ = some (.int .i64 (C : Int))) (first | exact SK _ (Below.refl _ _).drew | exact SK _ (Below.refl _ _) | exact SK _ (bel_next (by assumption) (by assumption) (Nat.le_refl _)))
            (first
              | (go_at_call 93; refine (HF.out _ (And.left (by assumption))).mono ?_; rintro e wx ⟨rfl, hbW⟩))
        obtain ⟨hbx, _⟩ : Below wr.heap.size wr _ ∧ _ := by assumption
        have HX := hide (HBL.out.trans (hbx.mono HBL.out.size))
        clear hbx SK c1 p1
        go_wp2_with fail
        go_roundg (gk - 1)
        case measure => have := HQ.out; omega
        case rel => exact ⟨j + 1, by go_num, by have := HQ.out; omega, by rw [HSN.out, if_pos HKC.out, HT1.out], HX.out⟩
      · skip
        have hki : ¬ (k : Int) ≤ (C : Int) := by omega
        have HKC := hide hkc
        clear hkc
        have p0 := (Blk.cell K_p.out 0).trans (rfl : _ = some (Value.int .i64 (N : Int)))
        have p1 := (Blk.cell K_p.out 1).trans (rfl : _ = some (Value.int .i64 (C : Int)))
        have SK : ∀ w', Below wr.heap.size wr w' → Below wr.heap.size wr w' ∧ w'.cell? ⟨g, j, none⟩ = some (.slice A2 l.length c2) ∧ w'.cell? ⟨w.heap.size, 1, none⟩ = some (.int .i64 (C : Int)) := fun w' h => ⟨h, (bcell h _ _ (block_lt_of_cell c1)).trans c1, (bcell h _ _ (block_lt_of_cell p1)).trans p1⟩
        clear p0
        go_upto_region 6 with (fail)
        go_region_held3 (fun w' => Below wr.heap.size wr w' ∧ w'.cell? ⟨g, j, none⟩ = some (.slice A2 l.length c2) ∧ w'.cell? ⟨w.heap.size, 1, none⟩ = some (.int .i64 (C : Int))) (first | exact SK _ (Below.refl _ _).drew | exact SK _ (Below.refl _ _) | exact SK _ (bel_next (by assumption) (by assumption) (Nat.le_refl _)))
            (first
              | (go_at_call 93; refine (HF.out _ (And.left (by assumption))).mono ?_; rintro e wx ⟨rfl, hbW⟩))
        obtain ⟨hbx, _⟩ : Below wr.heap.size wr _ ∧ _ := by assumption
        have HX := hide (HBL.out.trans (hbx.mono HBL.out.size))
        clear hbx SK c1 p1
        go_wp2_with fail
        go_roundg (gk - 1)
        case measure => have := HQ.out; omega
        case rel => exact ⟨j + 1, by go_num, by have := HQ.out; omega, by rw [HSN.out, if_neg HKC.out, Nat.add_zero], HX.out⟩
    · skip
      have hji : ¬ (j : Int) < (P.length : Int) := by omega
      obtain rfl : j = P.length := by omega
      have hft := HFIN.out
      rw [← List.take_length (l := P), HT.out] at hft
      clear HT
      have HQ9 : Hid (accQ bad (lot - bad) N C = Rat.divInt (t : Int) (P.length : Int)) := hide (by unfold accQ; rw [show bad + (lot - bad) = lot by omega, HLEN.out, hft])
      have hpp : 0 < P.length := by rw [HLEN.out]; exact bin_pos hN
      have HOV := hide (fun W => over_any W (t : Int) (P.length : Int) (by omega) (by omega) (by omega) (by omega) (by omega))
      rw [← HQ9.out] at HOV
      obtain ⟨q, hq⟩ : ∃ q, accQ bad (lot - bad) N C = q := ⟨_, rfl⟩
      rw [hq] at HOV
      have HQ8 := hide hq
      clear hq HFIN hft hpp htb
      go_wp2_with fail
      refine (HOV.out _).mono ?_
      rintro e wy ⟨rfl, hb⟩
      replace HB := hide (HB.out.trans (hb.mono HB.out.size))
      clear hb
      go_wp2_with fail
      go_ret
      exact ⟨by rw [HQ8.out]; rfl, HB.out⟩

set_option maxRecDepth 100000 in
set_option maxHeartbeats 8000000 in
theorem left_any (w : World) (N C lot bad : Nat) (h9 : lot ≤ 9) (hN : N ≤ lot) (hC : C ≤ N) (hbl : bad ≤ lot) (h0 : 0 < lot) :
    Calls Tryz.prog 48 #[.agg #[.int .i64 (N : Int), .int .i64 (C : Int)], .int .i64 (lot : Int), .int .i64 (bad : Int)] w fun e w' => e = .returned (.string ⟨(RT (outQ bad (lot - bad) N C)).toArray⟩) ∧ Below w.heap.size w w' := by
  have HL := hide (fun W => lists_any lot h9 N hN W)
  have hlen := (lists_spec h9 hN hbl).1
  have hfb : ∀ l, l ∈ listsL lot N → foundL bad l ≤ bad := fun l hl => found_le_bad h9 hN hbl hl
  have hln : ∀ l, l ∈ listsL lot N → l.length = N := fun l hl => listsL_length lot N l hl
  have hfew := lists_few h9 hN
  have HFIN := hide (lists_out h9 hN hbl hC)
  obtain ⟨P, hP⟩ : ∃ P, listsL lot N = P := ⟨_, rfl⟩
  rw [hP] at HL hlen hfb hln hfew HFIN
  have HFB := hide hfb
  have HLN := hide hln
  have HLEN := hide hlen
  clear hP hlen hfb hln
  have HB := allocs_below w [.cells #[.int .i64 (N : Int), .int .i64 (C : Int)] 23]
  have K_p : Blk (allocs w [.cells #[.int .i64 (N : Int), .int .i64 (C : Int)] 23]) (w.heap.size + 0) 23 #[.int .i64 (N : Int), .int .i64 (C : Int)] := allocs_at w [.cells #[.int .i64 (N : Int), .int .i64 (C : Int)] 23] 0 rfl
  unfold allocs at HB K_p
  simp only [List.foldl_cons, List.foldl_nil] at HB K_p
  rw [Nat.add_zero] at K_p
  go_enter Tryz.func48, Tryz.ntmps48
  go_upto_region 1 with (fail)
  generalize (w.alloc (.cells #[.int .i64 (N : Int), .int .i64 (C : Int)] 23)) = w0 at *
  replace K_p := hide K_p
  replace HB := hide HB
  have p0 := (Blk.cell K_p.out 0).trans (rfl : _ = some (Value.int .i64 (N : Int)))
  have p1 := (Blk.cell K_p.out 1).trans (rfl : _ = some (Value.int .i64 (C : Int)))
  go_wp2_with fail
  refine (HL.out _).mono ?_
  rintro e w1 ⟨v, rfl, ⟨rows, hv, hrows⟩, hb⟩
  obtain ⟨A, c, rfl, hAc⟩ : ∃ A c, v = .slice A P.length c ∧ ∀ (j : Nat) (u : Value), rows[j]? = some u → ∃ g, A = some ⟨g, 0, none⟩ ∧ w1.cell? ⟨g, j, none⟩ = some u := by
    rcases own_shape hv with ⟨rfl, h0, hr⟩ | ⟨g, c, rfl, _, _, hc⟩
    · exact ⟨none, 0, by rw [h0], fun j u hj => by rw [hr] at hj; simp at hj⟩
    · exact ⟨some ⟨g, 0, none⟩, c, rfl, fun j u hj => ⟨g, rfl, hc j u hj⟩⟩
  have HROW := hide hrows
  have HAC := hide hAc
  clear hv hrows hAc
  clear p0 p1
  replace K_p := hide (Blk.below K_p.out hb (Blk.lt K_p.out))
  replace HB := hide (HB.out.trans (hb.mono HB.out.size))
  clear hb
  have KP1 := K_p
  have HB1 := HB
  go_wp2_with fail
  go_loopg [8, 9] P.length (fun z nv iv wr => ∃ j : Nat, iv = .int .i64 (j : Int) ∧ z + j = P.length ∧ nv = .int .i64 ((totL (fun k => if k ≤ C then bad - k else 0) ((P.take j).map (foundL bad)) : Nat) : Int) ∧ Below w1.heap.size w1 wr)
  case atStart => exact ⟨0, rfl, rfl, rfl, Below.refl _ _⟩
  case round =>
    obtain ⟨j, rfl, hq, rfl, hb⟩ := hrel
    have HQ := hide hq
    have HBL := hide hb
    have hjL : j ≤ P.length := by omega
    have hmt := totL_le (fun k => if k ≤ C then bad - k else 0) 10 ((P.take j).map (foundL bad)) (fun x hx => by split <;> omega)
    rw [List.length_map, List.length_take] at hmt
    obtain ⟨t, ht⟩ : ∃ m, totL (fun k => if k ≤ C then bad - k else 0) ((P.take j).map (foundL bad)) = m := ⟨_, rfl⟩
    rw [ht] at hmt ⊢
    have htb : t ≤ 512 * 10 := by
      have h2 : min j P.length * 10 ≤ 512 * 10 := Nat.mul_le_mul (by omega) (by omega)
      omega
    have HT := hide ht
    replace K_p := hide (Blk.below KP1.out hb (Blk.lt KP1.out))
    replace HB := hide (HB1.out.trans (hb.mono HB1.out.size))
    clear hq hb ht hmt
    by_cases hlt : j < P.length
    · skip
      have hji : (j : Int) < (P.length : Int) := by omega
      have hj0 : (0 : Int) ≤ (j : Int) := by omega
      obtain ⟨l, hl⟩ : ∃ l, P[j]? = some l := ⟨_, List.getElem?_eq_getElem hlt⟩
      obtain ⟨u, hu, hur⟩ := HROW.out.2 j l hl
      obtain ⟨g, rfl, hcell⟩ := HAC.out j u hu
      have c1 := (bcell HBL.out _ _ (block_lt_of_cell hcell)).trans hcell
      have hux := IxL.of_row hur rfl
      have hux2 := hux.below HBL.out
      have hml := HLN.out l (List.mem_of_getElem? hl)
      have hmf := HFB.out l (List.mem_of_getElem? hl)
      have hst : (P.take (j + 1)).map (foundL bad) = (P.take j).map (foundL bad) ++ [foundL bad l] := by rw [List.take_add_one, hl, List.map_append]; rfl
      have hsn := totL_snoc (fun k => if k ≤ C then bad - k else 0) ((P.take j).map (foundL bad)) (foundL bad l)
      rw [← hst, HT.out] at hsn
      have HF := hide (fun W (hW : Below wr.heap.size wr W) => found_any W u l (hux2.below hW) (by omega) bad)
      obtain ⟨A2, c2, rfl⟩ := hux.shape
      obtain ⟨k, hk⟩ : ∃ k, foundL bad l = k := ⟨_, rfl⟩
      rw [hk] at HF hsn hmf
      have HSN := hide hsn
      clear hu hur hcell hux hux2 hl hst hsn hk hml HROW HAC HLN HFB
      by_cases hkc : k ≤ C
      · skip
        have hki : (k : Int) ≤ (C : Int) := by omega
        have HKC := hide hkc
        clear hkc
        have hw0 : IntKind.i64.wrap ((bad : Int) - (k : Int)) = ((bad - k : Nat) : Int) := (IntWalk.i64_in _ (by omega)).trans (by omega)
        obtain ⟨d, hd⟩ : ∃ d, bad - k = d := ⟨_, rfl⟩
        rw [hd] at hw0
        have hd9 : d ≤ 9 := by omega
        have HDD := hide hd
        clear hd
        have hwt : IntKind.i64.wrap ((t : Int) + (d : Int)) = ((t + d : Nat) : Int) := (IntWalk.i64_in _ (by omega)).trans (by omega)
        obtain ⟨t1, ht1⟩ : ∃ x, t + d = x := ⟨_, rfl⟩
        rw [ht1] at hwt
        have HT1 := hide ht1
        clear ht1
        have p0 := (Blk.cell K_p.out 0).trans (rfl : _ = some (Value.int .i64 (N : Int)))
        have p1 := (Blk.cell K_p.out 1).trans (rfl : _ = some (Value.int .i64 (C : Int)))
        go_wp2_with fail
        refine (HF.out _ (Below.refl _ _)).mono ?_
        rintro e wx ⟨rfl, hb⟩
        have HX := hide (HBL.out.trans (hb.mono HBL.out.size))
        clear p0 p1
        replace K_p := hide (Blk.below K_p.out hb (Blk.lt K_p.out))
        replace HB := hide (HB.out.trans (hb.mono HB.out.size))
        clear hb
        have p0 := (Blk.cell K_p.out 0).trans (rfl : _ = some (Value.int .i64 (N : Int)))
        have p1 := (Blk.cell K_p.out 1).trans (rfl : _ = some (Value.int .i64 (C : Int)))
        clear c1
        go_wp2_with fail
        go_roundg (gk - 1)
        case measure => have := HQ.out; omega
        case rel => exact ⟨j + 1, by go_num, by have := HQ.out; omega, by rw [HSN.out, if_pos HKC.out, HDD.out, HT1.out], HX.out⟩
      · skip
        have hki : ¬ (k : Int) ≤ (C : Int) := by omega
        have HKC := hide hkc
        clear hkc
        have p0 := (Blk.cell K_p.out 0).trans (rfl : _ = some (Value.int .i64 (N : Int)))
        have p1 := (Blk.cell K_p.out 1).trans (rfl : _ = some (Value.int .i64 (C : Int)))
        go_wp2_with fail
        refine (HF.out _ (Below.refl _ _)).mono ?_
        rintro e wx ⟨rfl, hb⟩
        have HX := hide (HBL.out.trans (hb.mono HBL.out.size))
        clear p0 p1
        replace K_p := hide (Blk.below K_p.out hb (Blk.lt K_p.out))
        replace HB := hide (HB.out.trans (hb.mono HB.out.size))
        clear hb
        have p0 := (Blk.cell K_p.out 0).trans (rfl : _ = some (Value.int .i64 (N : Int)))
        have p1 := (Blk.cell K_p.out 1).trans (rfl : _ = some (Value.int .i64 (C : Int)))
        clear c1
        go_wp2_with fail
        go_roundg (gk - 1)
        case measure => have := HQ.out; omega
        case rel => exact ⟨j + 1, by go_num, by have := HQ.out; omega, by rw [HSN.out, if_neg HKC.out, Nat.add_zero], HX.out⟩
    · skip
      have hji : ¬ (j : Int) < (P.length : Int) := by omega
      obtain rfl : j = P.length := by omega
      have hft := HFIN.out
      rw [← List.take_length (l := P), HT.out] at hft
      clear HT
      have hpp : 0 < P.length := by rw [HLEN.out]; exact bin_pos hN
      have HQ9 : Hid (outQ bad (lot - bad) N C = Rat.divInt (t : Int) ((lot * P.length : Nat) : Int)) := hide (by unfold outQ; rw [show bad + (lot - bad) = lot by omega, HLEN.out, hft, Nat.mul_comm])
      have hlp : lot * P.length ≤ 9 * 512 := Nat.mul_le_mul h9 hfew
      have hlp0 : 0 < lot * P.length := Nat.mul_pos h0 hpp
      have hwp : IntKind.i64.wrap ((lot : Int) * (P.length : Int)) = ((lot * P.length : Nat) : Int) := by rw [← Int.natCast_mul]; exact IntWalk.i64_in _ (by omega)
      have HOV := hide (fun W => over_any W (t : Int) ((lot * P.length : Nat) : Int) (by omega) (by omega) (by omega) (by omega) (by omega))
      rw [← HQ9.out] at HOV
      obtain ⟨q, hq⟩ : ∃ q, outQ bad (lot - bad) N C = q := ⟨_, rfl⟩
      rw [hq] at HOV
      have HQ8 := hide hq
      obtain ⟨m9, hm9⟩ : ∃ x, lot * P.length = x := ⟨_, rfl⟩
      rw [hm9] at HOV hwp
      clear hq HFIN hft hpp HQ9 hlp hlp0 hm9 htb
      go_wp2_with fail
      refine (HOV.out _).mono ?_
      rintro e wy ⟨rfl, hb⟩
      replace HB := hide (HB.out.trans (hb.mono HB.out.size))
      clear hb
      go_wp2_with fail
      go_ret
      exact ⟨by rw [HQ8.out]; rfl, HB.out⟩

end Go.Proofs.YtaccdkbofhlbkaaGreatDoor
