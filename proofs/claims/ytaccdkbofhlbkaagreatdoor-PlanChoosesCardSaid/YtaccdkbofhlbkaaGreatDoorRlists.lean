/- metrolabref11.Lists: all ascending lists of indices. -/
import Derived.OwnWalk
import Derived.RangeFuncBox
import Derived.Laws.OwnMore
import Derived.Test.YtaccdkbofhlbkaaGreatDoorInts
import Derived.Test.YtaccdkbofhlbkaaGreatDoorBinl
import Derived.Test.YtaccdkbofhlbkaaGreatDoorBuilder
namespace Go.Proofs.YtaccdkbofhlbkaaGreatDoor
open Go.RowKit Go.Shelf MLab

theorem rngL_snoc : ∀ (n a : Nat), rngL a (n + 1) = rngL a n ++ [a + n]
  | 0, a => rfl
  | n + 1, a => by
    show a :: rngL (a + 1) (n + 1) = a :: rngL (a + 1) n ++ [a + (n + 1)]
    rw [rngL_snoc n (a + 1), show a + 1 + n = a + (n + 1) by omega]; rfl
theorem rngL_len : ∀ (n a : Nat), (rngL a n).length = n
  | 0, _ => rfl
  | n + 1, a => by show (rngL (a + 1) n).length + 1 = n + 1; rw [rngL_len n]
theorem rngL_mem : ∀ {n a i : Nat}, i ∈ rngL a n → i < a + n
  | 0, _, _, h => absurd h (by simp [rngL])
  | n + 1, a, i, h => by
    rcases List.mem_cons.1 h with rfl | h
    · omega
    · have := rngL_mem h; omega
theorem firstL_snoc : ∀ (l : List Nat) (x : Nat), firstL (l ++ [x]) = x + 1
  | [], _ => rfl
  | [_], _ => rfl
  | _ :: y :: l, x => firstL_snoc (y :: l) x
theorem firstL_last {l : List Nat} {x : Nat} (h : l[l.length - 1]? = some x) : firstL l = x + 1 := by
  have hne : l ≠ [] := by rintro rfl; simp at h
  have h2 := List.dropLast_concat_getLast hne
  rw [List.getElem?_eq_getElem (by have := List.length_pos_iff.2 hne; omega)] at h
  rw [← h2, firstL_snoc]
  rw [List.getLast_eq_getElem hne, Option.some.inj h]
theorem firstL_le {n : Nat} : ∀ {k : Nat} {l : List Nat}, l ∈ listsL n k → firstL l ≤ n
  | 0, l, h => by
    obtain rfl : l = [] := by simpa [listsL] using h
    exact Nat.zero_le _
  | k + 1, l, h => by
    obtain ⟨m, hm, hl⟩ := List.mem_flatMap.1 h
    obtain ⟨i, hi, rfl⟩ := List.mem_map.1 hl
    have := rngL_mem hi
    have := firstL_le hm
    rw [firstL_snoc]; omega
theorem stepL_len (n : Nat) (l : List Nat) : (stepL n l).length ≤ n := by
  unfold stepL
  rw [List.length_map, rngL_len]; omega
theorem flat_len (n : Nat) : ∀ P : List (List Nat), (P.flatMap (stepL n)).length ≤ P.length * n
  | [] => by simp
  | l :: P => by
    rw [List.flatMap_cons, List.length_append, List.length_cons, Nat.add_mul]
    have := stepL_len n l
    have := flat_len n P
    omega
theorem take_flat (n : Nat) {P : List (List Nat)} {j : Nat} {l : List Nat} (h : P[j]? = some l) : (P.take (j + 1)).flatMap (stepL n) = (P.take j).flatMap (stepL n) ++ stepL n l := by
  rw [List.take_add_one, h, List.flatMap_append]
  simp
theorem lists_few {n k : Nat} (hn : n ≤ 9) (hk : k ≤ n) : (listsL n k).length ≤ 512 := by
  have h := (lists_spec (lot := n) (N := k) (bad := 0) hn hk (by omega)).1
  have h1 := bin_le_pow n k
  have h2 : 2 ^ n ≤ 2 ^ 9 := Nat.pow_le_pow_right (by omega) hn
  omega

theorem info_sl : (Tryz.prog.info? 124).map (fun i => (i.zero, i.size, i.bytes)) = some (some (.slice none 0 0), 1, 24) := by kernel_rfl
/-- These values are slices that own these lists. -/
def RowsOf (w : World) (base : Nat) (rows : List Value) (M : List (List Nat)) : Prop :=
  rows.length = M.length ∧ ∀ (p : Nat) (l : List Nat), M[p]? = some l → ∃ u, rows[p]? = some u ∧ w.ownsRow base 3 1 u l.length (icl l)
theorem RowsOf.nil (w : World) (base : Nat) : RowsOf w base [] [] := ⟨rfl, fun p l h => by simp at h⟩
theorem RowsOf.below {w w' : World} {base : Nat} {rows : List Value} {M : List (List Nat)} (h : RowsOf w base rows M) (hb : Below w.heap.size w w') : RowsOf w' base rows M :=
  ⟨h.1, fun p l hp => by obtain ⟨u, h1, h2⟩ := h.2 p l hp; exact ⟨u, h1, owns_below h2 hb⟩⟩
theorem row_other {w w' : World} {base base2 : Nat} {u v : Value} {n k : Nat} {xs ys : List Value} (hu : w.ownsRow base 3 1 u n xs) (hv : w.ownsRow base2 124 1 v k ys) (hg : w.grownBy w' v.ownBlock) : w'.ownsRow base 3 1 u n xs := by
  refine hu.kept hg ?_
  rcases hu.2 with ⟨rfl, _⟩ | ⟨g, cap, cur, rfl, _, hgb, _⟩
  · exact .inl rfl
  · right
    rcases hv.2 with ⟨rfl, _⟩ | ⟨g2, cap2, cur2, rfl, _, hgb2, _⟩
    · simp [Value.ownBlock]
    · intro e
      obtain rfl : g = g2 := by simpa [Value.ownBlock] using e
      rw [hgb] at hgb2
      simp at hgb2
theorem RowsOf.own {w w' : World} {base base2 : Nat} {rows ys : List Value} {M : List (List Nat)} {v : Value} {k : Nat} (h : RowsOf w base rows M) (hv : w.ownsRow base2 124 1 v k ys) (hg : w.grownBy w' v.ownBlock) : RowsOf w' base rows M :=
  ⟨h.1, fun p l hp => by obtain ⟨u, h1, h2⟩ := h.2 p l hp; exact ⟨u, h1, row_other h2 hv hg⟩⟩
theorem RowsOf.snoc {w : World} {base : Nat} {rows : List Value} {M : List (List Nat)} {u : Value} {l : List Nat} (h : RowsOf w base rows M) (hu : w.ownsRow base 3 1 u l.length (icl l)) : RowsOf w base (rows ++ [u]) (M ++ [l]) := by
  refine ⟨by simp [h.1], fun p m hp => ?_⟩
  by_cases hlt : p < M.length
  · rw [List.getElem?_append_left hlt] at hp
    obtain ⟨v, h1, h2⟩ := h.2 p m hp
    exact ⟨v, by rw [List.getElem?_append_left (by rw [h.1]; exact hlt)]; exact h1, h2⟩
  · rw [List.getElem?_append_right (by omega)] at hp
    have hp0 : p - M.length = 0 := by
      have := (List.getElem?_eq_some_iff.1 hp).1
      simp at this; omega
    rw [hp0] at hp
    obtain rfl : l = m := by simpa using hp
    exact ⟨u, by rw [List.getElem?_append_right (by rw [h.1]; omega), h.1, hp0]; rfl, hu⟩
theorem own_mono {w : World} {a b : Nat} {e : TypeId} {size n : Nat} {v : Value} {xs : List Value} (h : w.ownsRow b e size v n xs) (hab : a ≤ b) : w.ownsRow a e size v n xs := by
  refine ⟨h.1, ?_⟩
  rcases h.2 with h2 | ⟨g, cap, cur, hv, hg, r⟩
  · exact .inl h2
  · exact .inr ⟨g, cap, cur, hv, Nat.le_trans hab hg, r⟩
theorem RowsOf.mono {w : World} {a b : Nat} {rows : List Value} {M : List (List Nat)} (h : RowsOf w b rows M) (hab : a ≤ b) : RowsOf w a rows M :=
  ⟨h.1, fun p l hp => by obtain ⟨u, h1, h2⟩ := h.2 p l hp; exact ⟨u, h1, own_mono h2 hab⟩⟩
/-- The shape of a slice that owns a row. -/
theorem own_shape {w : World} {base : Nat} {e : TypeId} {n : Nat} {v : Value} {xs : List Value} (h : w.ownsRow base e 1 v n xs) :
    (v = .slice none 0 0 ∧ n = 0 ∧ xs = []) ∨ ∃ g c, v = .slice (some ⟨g, 0, none⟩) n c ∧ n ≤ c ∧ g < w.heap.size ∧ (∀ (j : Nat) (u : Value), xs[j]? = some u → w.cell? ⟨g, j, none⟩ = some u) := by
  rcases h.2 with ⟨rfl, h0⟩ | ⟨g, cap, cur, rfl, hb, hgg, hn, hcap, hsz, htake⟩
  · subst h0
    exact .inl ⟨rfl, rfl, List.eq_nil_of_length_eq_zero (by have := h.1; omega)⟩
  · refine .inr ⟨g, cap, rfl, hn, (Array.getElem?_eq_some_iff.1 hgg).1, fun j u hj => ?_⟩
    have hjn : j < n := by
      have h1 := h.1
      have := (List.getElem?_eq_some_iff.1 hj).1
      omega
    exact (h.cellAt j (by omega)).trans hj
theorem grown_mono {w w' : World} {row : Option Nat} {n : Nat} (hg : w.grownBy w' row) (hn : n ≤ w.heap.size) (hr : ∀ r, row = some r → n ≤ r) : Below n w w' := (Below.refl n w).grown hg hn hr

theorem wpList_append_nil {P : Program} (w : World) {ops : Array Oper} {rest : List Oper} {o : Oper} {a : Act} {Q : Exit → Act → World → Prop}
    (hg : o.guard = none) (s x : Operand) (t : TypeId) (hop : o.op = Op.call { callee := Callee.builtin Builtin.append, args := #[s, x], argTypes := #[t, t] })
    (base : Nat) (e : TypeId) (i : TypeInfo) (size : Nat) (h1 : P.underlying t = some (.slice e)) (h2 : P.info? e = some i)
    (v : Value) (k : Nat) (xs : List Value) (hs : a.eval s = v) (hown : w.ownsRow base e size v k xs) (hx : a.eval x = .slice none 0 0)
    (hK : wpList P ops Q rest (a.put o.dst v) w) : wpList P ops Q (o :: rest) a w := by
  refine wpList_plain hg fun K hK' => ?_
  have hrun := run_append_owned_none (P := P) w base t o.type e i size h1 h2 _ k xs hown
  unfold Oper.wp
  simp [execOp, hop, resolve, invoke, builtin, hs, hx, hrun, Result.andThen]
  exact hK' _ _ hK
/-- What Lists returns. -/
def LlsOf (w w' : World) (L : List (List Nat)) (v : Value) : Prop := ∃ rows, w'.ownsRow w.heap.size 124 1 v L.length rows ∧ RowsOf w' w.heap.size rows L

set_option maxRecDepth 100000 in
set_option maxHeartbeats 2000000 in
theorem lists_zero (w : World) (n : Nat) :
    Calls Tryz.prog 92 #[.int .i64 (n : Int), .int .i64 ((0 : Nat) : Int)] w fun e w' => ∃ v, e = .returned v ∧ LlsOf w w' (listsL n 0) v ∧ Below w.heap.size w w' := by
  have hk : ((0 : Nat) : Int) = 0 := rfl
  go_enter Tryz.func92, Tryz.ntmps92
  go_wp2_with fail
  go_ret
  refine ⟨_, rfl, ⟨[.slice none 0 0], World.ownsRow_lit w #[.slice none 0 0] 1 (Nat.le_refl _) (by unfold maxLen; omega) rfl, ?_⟩, (Below.refl _ _).alloc (Nat.le_refl _) _⟩
  refine ⟨rfl, fun p l hp => ⟨.slice none 0 0, ?_, ?_⟩⟩
  · have := (List.getElem?_eq_some_iff.1 hp).1
    simp [listsL] at this; subst this; rfl
  · have := List.mem_of_getElem? hp
    obtain rfl : l = [] := by simpa [listsL] using this
    exact World.ownsRow_nil _ _ _ _

set_option maxRecDepth 100000 in
set_option maxHeartbeats 8000000 in
theorem lists_succ (n k : Nat) (hn : n ≤ 9) (hk : k + 1 ≤ n) (ih : ∀ w, Calls Tryz.prog 92 #[.int .i64 (n : Int), .int .i64 (k : Int)] w fun e w' => ∃ v, e = .returned v ∧ LlsOf w w' (listsL n k) v ∧ Below w.heap.size w w') (hll0 : ∀ l, l ∈ listsL n k → l.length = k) (w : World) :
    Calls Tryz.prog 92 #[.int .i64 (n : Int), .int .i64 ((k + 1 : Nat) : Int)] w fun e w' => ∃ v, e = .returned v ∧ LlsOf w w' (listsL n (k + 1)) v ∧ Below w.heap.size w w' := by
  have hk0 : ¬ ((k + 1 : Nat) : Int) = 0 := by omega
  have hk1 : (((k + 1 : Nat) : Int) == 0) = false := by simp; omega
  have hw : IntKind.i64.wrap (((k + 1 : Nat) : Int) - 1) = (k : Int) := (IntWalk.i64_in _ (by omega)).trans (by omega)
  have HI := hide ih
  have hle : ∀ l, l ∈ listsL n k → firstL l ≤ n := fun l => firstL_le
  have HLE := hide hle
  have hfew := lists_few (n := n) (k := k) hn (by omega)
  obtain ⟨P, hP⟩ : ∃ P, listsL n k = P := ⟨_, rfl⟩
  have hL1 : listsL n (k + 1) = P.flatMap (stepL n) := by rw [← hP]; rfl
  rw [hP] at HI HLE hfew hll0
  have HLL := hide hll0
  clear hll0
  have HL1 := hide hL1
  obtain ⟨i0, hi, hz0, hz1, hz2⟩ := info_parts info_int
  obtain ⟨s0, hs, hy0, hy1, hy2⟩ := info_parts info_sl
  have HINF := hide hi
  have HZ0 := hide hz0
  have HZ1 := hide hz1
  have HZ2 := hide hz2
  have HINS := hide hs
  have HY0 := hide hy0
  have HY1 := hide hy1
  have HY2 := hide hy2
  clear ih hle hP hL1 hi hz0 hz1 hz2 hs hy0 hy1 hy2
  go_enter Tryz.func92, Tryz.ntmps92
  go_wp2_with fail
  refine (HI.out w).mono ?_
  rintro e w1 ⟨v, rfl, ⟨rows, hv, hrows⟩, hb1⟩
  have HROW := hide hrows
  have HB1 := hide hb1
  obtain ⟨A, c, rfl, hAc⟩ : ∃ A c, v = .slice A P.length c ∧ ∀ j u, rows[j]? = some u → ∃ g, A = some ⟨g, 0, none⟩ ∧ w1.cell? ⟨g, j, none⟩ = some u := by
    rcases own_shape hv with ⟨rfl, h0, hr⟩ | ⟨g, c, rfl, _, _, hc⟩
    · exact ⟨none, 0, by rw [h0], fun j u hj => by rw [hr] at hj; simp at hj⟩
    · exact ⟨some ⟨g, 0, none⟩, c, rfl, fun j u hj => ⟨g, rfl, hc j u hj⟩⟩
  have HAC := hide hAc
  clear hv hrows hb1 hAc HI
  go_wp2_with fail
  go_loopg [5, 18] P.length (fun z ov iv wr => ∃ (j : Nat) (rw_ : List Value), iv = .int .i64 (j : Int) ∧ z + j = P.length ∧ wr.ownsRow w1.heap.size 124 1 ov ((P.take j).flatMap (stepL n)).length rw_ ∧ RowsOf wr w1.heap.size rw_ ((P.take j).flatMap (stepL n)) ∧ Below w1.heap.size w1 wr)
  case atStart => exact ⟨0, [], rfl, rfl, World.ownsRow_nil _ _ _ _, RowsOf.nil _ _, Below.refl _ _⟩
  case round =>
    obtain ⟨j, rw_, rfl, hq, hown, hro, hb⟩ := hrel
    have HQ := hide hq
    have HOWN := hide hown
    have HRO := hide hro
    have HB := hide hb
    have hjK : j ≤ P.length := by omega
    clear hq hown hro hb
    obtain ⟨g0, hg0⟩ : ∃ g : Nat, g = gk := ⟨_, rfl⟩
    have HG0 := hide hg0
    clear hg0
    obtain ⟨M0, hM0⟩ : ∃ M, (P.take j).flatMap (stepL n) = M := ⟨_, rfl⟩
    rw [hM0] at HOWN HRO
    have hM0l : M0.length ≤ 512 * 9 := by
      have h1 := flat_len n (P.take j)
      rw [hM0, List.length_take] at h1
      have h2 : min j P.length * n ≤ 512 * 9 := Nat.mul_le_mul (by omega) hn
      omega
    have HM0 := hide hM0
    clear hM0
    by_cases hlt : j < P.length
    · have hji : (j : Int) < (P.length : Int) := by omega
      obtain ⟨l, hl⟩ : ∃ l, P[j]? = some l := ⟨_, List.getElem?_eq_getElem hlt⟩
      obtain ⟨u, hu, hur⟩ := HROW.out.2 j l hl
      obtain ⟨g, rfl, hcell⟩ := HAC.out j u hu
      have hcw := (bcell HB.out _ _ (block_lt_of_cell hcell)).trans hcell
      have hfl := HLE.out l (List.mem_of_getElem? hl)
      have HTK := hide (take_flat n hl)
      have hl9 : l.length ≤ 9 := by rw [HLL.out l (List.mem_of_getElem? hl)]; omega
      rw [HM0.out] at HTK
      have HUR := hide hur
      obtain ⟨f0, hf0⟩ : ∃ f, firstL l = f := ⟨_, rfl⟩
      have HF0 := hide hf0
      rw [hf0] at hfl
      have hj0 : (0 : Int) ≤ (j : Int) := by omega
      clear hcell hu hl hur hf0 HROW HAC HLE HLL
      rcases own_shape HUR.out with ⟨rfl, hl0, _⟩ | ⟨gu, cu, rfl, hcu, hgu, hcs⟩
      · skip
        have hln : l = [] := List.eq_nil_of_length_eq_zero hl0
        have hf00 : f0 = 0 := by rw [← HF0.out, hln]; rfl
        have HLN := hide hln
        have HF00 := hide hf00
        clear hln hf00 hl0
        go_wp2_with fail
        go_loopg [5, 9] (n - f0) (fun z ov iv wr => ∃ (d : Nat) (rw_ : List Value), iv = .int .i64 ((f0 + d : Nat) : Int) ∧ z + d = n - f0 ∧ wr.ownsRow w1.heap.size 124 1 ov (M0.length + d) rw_ ∧ RowsOf wr w1.heap.size rw_ (M0 ++ (rngL f0 d).map fun i => l ++ [i]) ∧ Below w1.heap.size w1 wr)
        case atStart => exact ⟨0, rw_, by rw [HF00.out]; rfl, by omega, HOWN.out, by simpa [rngL] using HRO.out, HB.out⟩
        case round =>
          obtain ⟨d, rv, rfl, hq, hown, hro, hb⟩ := hrel
          have HQ1 := hide hq
          have HOWN1 := hide hown
          have HRO1 := hide hro
          have HB1' := hide hb
          have hdl : d ≤ n - f0 := by omega
          clear hq hown hro hb
          by_cases hld : d < n - f0
          · have hdi : ((f0 + d : Nat) : Int) < (n : Int) := by omega
            have hw1 : IntKind.i64.wrap (((f0 + d : Nat) : Int) + 1) = ((f0 + (d + 1) : Nat) : Int) := (IntWalk.i64_in _ (by omega)).trans (by omega)
            obtain ⟨i, hii⟩ : ∃ i, f0 + d = i := ⟨_, rfl⟩
            have HII := hide hii
            rw [hii] at hdi hw1
            rw [hii]
            clear hii
            have hsz : w1.heap.size ≤ wr.heap.size := HB1'.out.size
            have hemp := World.ownsRow_lit (base := wr.heap.size) (e := 3) (size := 1) wr #[] 0 (Nat.le_refl _) (by unfold maxLen; omega) rfl
            have hbe := (Below.refl wr.heap.size wr).alloc (Nat.le_refl _) (.cells #[] 3)
            have hwz : wr.heap.size ≤ (wr.alloc (.cells #[] 3)).heap.size := by simp
            have ho2 := hemp
            have hb2 := hbe
            clear hbe hwz
            have hz2s : wr.heap.size ≤ (wr.alloc (.cells #[] 3)).heap.size := hb2.size
            go_wp2_with (at_builtin; first | (refine wpList_append_nil _ rfl _ _ 124 rfl wr.heap.size 3 i0 1 Tryz.underlying124 HINF.out (.slice (some ⟨wr.heap.size, 0, none⟩) 0 0) 0 [] rfl hemp rfl ?_) | refine wpList_append_own _ rfl _ _ 124 rfl wr.heap.size 3 i0 (.int .i64 0) 1 8 Tryz.underlying124 HINF.out HZ0.out HZ1.out HZ2.out rfl (by decide) _ _ _ rfl (ho2.alloc _) ⟨wr.heap.size + 1, 0, none⟩ 1 1 [.int .i64 (i : Int)] rfl rfl ?he11 ?he21 ?he31 ?he41 ?he51 ?_)
            try (case he11 => (intro j u hj; match j, hj with | 0, hj => (simp at hj; subst hj; simp [Addr.add])))
            try (case he21 => first | (intro u hu; simp at hu; subst hu; rfl) | rfl | simp [Value.oneCell'])
            try (case he31 => first | (unfold maxLen; omega) | (simp [maxLen]))
            try (case he41 => (omega))
            try (case he51 => first | (simp; omega) | omega | simp)
            intro v3 w3 ho3 hg3 _
            replace ho3 : w3.ownsRow wr.heap.size 3 1 v3 (l.length + 1) (icl l ++ [.int .i64 (i : Int)]) := by rw [HLN.out]; exact ho3
            rw [icl_snoc] at ho3
            have hb3 : Below wr.heap.size wr w3 := (hb2.alloc hz2s _).grown hg3 (by simp; omega) (fun k e => (ho2.lt k e).1)
            have hz3s : wr.heap.size ≤ w3.heap.size := hb3.size
            obtain ⟨g3, c3, rfl⟩ := ownsRow_succ ho3
            have hown3 := owns_below HOWN1.out hb3
            have hro3 := HRO1.out.below hb3
            clear hg3 ho2 hb2 hz2s
            obtain ⟨nl, hnl⟩ : ∃ k, l.length + 1 = k := ⟨_, rfl⟩
            rw [hnl] at ho3 ⊢
            go_wp2_with (at_builtin; refine wpList_append_own _ rfl _ _ 121 rfl w1.heap.size 124 s0 (.slice none 0 0) 1 24 Tryz.underlying121 HINS.out HY0.out HY1.out HY2.out rfl (by decide) _ _ _ rfl (hown3.alloc _) ⟨w3.heap.size, 0, none⟩ 1 1 [.slice (some ⟨g3, 0, none⟩) nl c3] rfl rfl ?hf11 ?hf21 ?hf31 ?hf41 ?hf51 ?_)
            try (case hf11 => (intro j u hj; match j, hj with | 0, hj => (simp at hj; subst hj; simp [Addr.add])))
            try (case hf21 => first | (intro u hu; simp at hu; subst hu; rfl) | rfl | simp [Value.oneCell'])
            try (case hf31 => first | (unfold maxLen; omega) | (simp [maxLen]))
            try (case hf41 => (omega))
            try (case hf51 => first | (simp; omega) | omega | simp)
            intro v4 w4 ho4 hg4 _
            have hro4 := (hro3.below ((Below.refl w3.heap.size w3).alloc (Nat.le_refl _) _)).own (hown3.alloc _) hg4
            have hu4 := row_other (ho3.alloc _) (hown3.alloc _) hg4
            have hb4 : Below w1.heap.size w1 w4 := ((HB1'.out.trans (hb3.mono hsz)).alloc (by omega) _).grown hg4 (by simp; omega) (fun k e => (hown3.lt k e).1)
            have hsn := hro4.snoc (l := l ++ [i]) (by rw [List.length_append, List.length_singleton, hnl]; exact own_mono hu4 hsz)
            have HO4 := hide ho4
            have HS4 := hide hsn
            have HB4 := hide hb4
            clear hro3 hown3 hro4 hu4 hg4 ho4 hsn hb4 ho3 hb3 hnl
            go_wp2_with fail
            go_roundg (gk - 1)
            case measure => have := HQ1.out; omega
            case rel => exact ⟨d + 1, rv ++ [.slice (some ⟨g3, 0, none⟩) nl c3], by go_num, by have := HQ1.out; omega, HO4.out, by rw [rngL_snoc, List.map_append, ← List.append_assoc, HII.out]; exact HS4.out, HB4.out⟩
          · have hdi : ¬ ((f0 + d : Nat) : Int) < (n : Int) := by omega
            have hd : d = n - f0 := by omega
            go_wp2_with fail
            go_roundg (g0 - 1)
            case measure => have := HQ.out; have := HG0.out; omega
            case rel => exact ⟨j + 1, rv, by go_num, by have := HQ.out; have := HG0.out; omega, by rw [HTK.out, List.length_append, stepL, List.length_map, rngL_len, HF0.out, ← hd]; exact HOWN1.out, by rw [HTK.out, stepL, HF0.out, ← hd]; exact HRO1.out, HB1'.out⟩
      · skip
        by_cases hln : l.length = 0
        · have hl2 : l = [] := List.eq_nil_of_length_eq_zero hln
          have hf00 : f0 = 0 := by rw [← HF0.out, hl2]; rfl
          have HF00 := hide hf00
          have hlp : ¬ 0 < l.length := by omega
          clear hl2 hf00 hln
          go_wp2_with fail
          go_loopg [5, 9] (n - f0) (fun z ov iv wr => ∃ (d : Nat) (rw_ : List Value), iv = .int .i64 ((f0 + d : Nat) : Int) ∧ z + d = n - f0 ∧ wr.ownsRow w1.heap.size 124 1 ov (M0.length + d) rw_ ∧ RowsOf wr w1.heap.size rw_ (M0 ++ (rngL f0 d).map fun i => l ++ [i]) ∧ Below w1.heap.size w1 wr)
          case atStart => exact ⟨0, rw_, by rw [HF00.out]; rfl, by omega, HOWN.out, by simpa [rngL] using HRO.out, HB.out⟩
          case round =>
            obtain ⟨d, rv, rfl, hq, hown, hro, hb⟩ := hrel
            have HQ1 := hide hq
            have HOWN1 := hide hown
            have HRO1 := hide hro
            have HB1' := hide hb
            have hdl : d ≤ n - f0 := by omega
            clear hq hown hro hb
            by_cases hld : d < n - f0
            · have hdi : ((f0 + d : Nat) : Int) < (n : Int) := by omega
              have hw1 : IntKind.i64.wrap (((f0 + d : Nat) : Int) + 1) = ((f0 + (d + 1) : Nat) : Int) := (IntWalk.i64_in _ (by omega)).trans (by omega)
              obtain ⟨i, hii⟩ : ∃ i, f0 + d = i := ⟨_, rfl⟩
              have HII := hide hii
              rw [hii] at hdi hw1
              rw [hii]
              clear hii
              have hsz : w1.heap.size ≤ wr.heap.size := HB1'.out.size
              have hemp := World.ownsRow_lit (base := wr.heap.size) (e := 3) (size := 1) wr #[] 0 (Nat.le_refl _) (by unfold maxLen; omega) rfl
              have hbe := (Below.refl wr.heap.size wr).alloc (Nat.le_refl _) (.cells #[] 3)
              have hwz : wr.heap.size ≤ (wr.alloc (.cells #[] 3)).heap.size := by simp
              have hcd : ∀ j u, (icl l)[j]? = some u → (wr.alloc (.cells #[] 3)).cell? ⟨gu, j, none⟩ = some u := fun j u hj => by
                have c1 := hcs j u hj
                have c2 := (bcell HB1'.out _ _ (block_lt_of_cell c1)).trans c1
                exact (bcell hbe _ _ (block_lt_of_cell c2)).trans c2
              go_wp2_with (at_builtin; refine wpList_append_own _ rfl _ _ 124 rfl wr.heap.size 3 i0 (.int .i64 0) 1 8 Tryz.underlying124 HINF.out HZ0.out HZ1.out HZ2.out rfl (by decide) _ _ _ rfl hemp ⟨gu, 0, none⟩ l.length cu (icl l) rfl (by simp [icl]) ?hd12 ?hd22 ?hd32 ?hd42 ?hd52 ?_)
              try (case hd12 => (intro j u hj; simpa [Addr.add] using hcd j u hj))
              try (case hd22 => (intro u hu; simp [icl] at hu; obtain ⟨_, _, rfl⟩ := hu; rfl))
              try (case hd32 => (unfold maxLen; omega))
              try (case hd42 => (omega))
              try (case hd52 => exact hwz)
              intro v2 w2 ho2 hg2 _
              replace ho2 : w2.ownsRow wr.heap.size 3 1 v2 l.length (icl l) := by first | exact ho2 | simpa using ho2
              have hb2 : Below wr.heap.size wr w2 := hbe.grown hg2 hwz (fun k e => by simp [Value.ownBlock] at e; omega)
              clear hemp hbe hwz hg2 hcd
              have hz2s : wr.heap.size ≤ w2.heap.size := hb2.size
              go_wp2_with (at_builtin; refine wpList_append_own _ rfl _ _ 124 rfl wr.heap.size 3 i0 (.int .i64 0) 1 8 Tryz.underlying124 HINF.out HZ0.out HZ1.out HZ2.out rfl (by decide) _ _ _ rfl (ho2.alloc _) ⟨w2.heap.size, 0, none⟩ 1 1 [.int .i64 (i : Int)] rfl rfl ?he12 ?he22 ?he32 ?he42 ?he52 ?_)
              try (case he12 => (intro j u hj; match j, hj with | 0, hj => (simp at hj; subst hj; simp [Addr.add])))
              try (case he22 => first | (intro u hu; simp at hu; subst hu; rfl) | rfl | simp [Value.oneCell'])
              try (case he32 => first | (unfold maxLen; omega) | (simp [maxLen]))
              try (case he42 => (omega))
              try (case he52 => first | (simp; omega) | omega | simp)
              intro v3 w3 ho3 hg3 _
              rw [icl_snoc] at ho3
              have hb3 : Below wr.heap.size wr w3 := (hb2.alloc hz2s _).grown hg3 (by simp; omega) (fun k e => (ho2.lt k e).1)
              have hz3s : wr.heap.size ≤ w3.heap.size := hb3.size
              obtain ⟨g3, c3, rfl⟩ := ownsRow_succ ho3
              have hown3 := owns_below HOWN1.out hb3
              have hro3 := HRO1.out.below hb3
              clear hg3 ho2 hb2 hz2s
              obtain ⟨nl, hnl⟩ : ∃ k, l.length + 1 = k := ⟨_, rfl⟩
              rw [hnl] at ho3 ⊢
              go_wp2_with (at_builtin; refine wpList_append_own _ rfl _ _ 121 rfl w1.heap.size 124 s0 (.slice none 0 0) 1 24 Tryz.underlying121 HINS.out HY0.out HY1.out HY2.out rfl (by decide) _ _ _ rfl (hown3.alloc _) ⟨w3.heap.size, 0, none⟩ 1 1 [.slice (some ⟨g3, 0, none⟩) nl c3] rfl rfl ?hf12 ?hf22 ?hf32 ?hf42 ?hf52 ?_)
              try (case hf12 => (intro j u hj; match j, hj with | 0, hj => (simp at hj; subst hj; simp [Addr.add])))
              try (case hf22 => first | (intro u hu; simp at hu; subst hu; rfl) | rfl | simp [Value.oneCell'])
              try (case hf32 => first | (unfold maxLen; omega) | (simp [maxLen]))
              try (case hf42 => (omega))
              try (case hf52 => first | (simp; omega) | omega | simp)
              intro v4 w4 ho4 hg4 _
              have hro4 := (hro3.below ((Below.refl w3.heap.size w3).alloc (Nat.le_refl _) _)).own (hown3.alloc _) hg4
              have hu4 := row_other (ho3.alloc _) (hown3.alloc _) hg4
              have hb4 : Below w1.heap.size w1 w4 := ((HB1'.out.trans (hb3.mono hsz)).alloc (by omega) _).grown hg4 (by simp; omega) (fun k e => (hown3.lt k e).1)
              have hsn := hro4.snoc (l := l ++ [i]) (by rw [List.length_append, List.length_singleton, hnl]; exact own_mono hu4 hsz)
              have HO4 := hide ho4
              have HS4 := hide hsn
              have HB4 := hide hb4
              clear hro3 hown3 hro4 hu4 hg4 ho4 hsn hb4 ho3 hb3 hnl
              go_wp2_with fail
              go_roundg (gk - 1)
              case measure => have := HQ1.out; omega
              case rel => exact ⟨d + 1, rv ++ [.slice (some ⟨g3, 0, none⟩) nl c3], by go_num, by have := HQ1.out; omega, HO4.out, by rw [rngL_snoc, List.map_append, ← List.append_assoc, HII.out]; exact HS4.out, HB4.out⟩
            · have hdi : ¬ ((f0 + d : Nat) : Int) < (n : Int) := by omega
              have hd : d = n - f0 := by omega
              go_wp2_with fail
              go_roundg (g0 - 1)
              case measure => have := HQ.out; have := HG0.out; omega
              case rel => exact ⟨j + 1, rv, by go_num, by have := HQ.out; have := HG0.out; omega, by rw [HTK.out, List.length_append, stepL, List.length_map, rngL_len, HF0.out, ← hd]; exact HOWN1.out, by rw [HTK.out, stepL, HF0.out, ← hd]; exact HRO1.out, HB1'.out⟩
        · obtain ⟨x, hx⟩ : ∃ x, l[l.length - 1]? = some x := ⟨_, List.getElem?_eq_getElem (by omega)⟩
          have hfx : f0 = x + 1 := by rw [← HF0.out]; exact firstL_last hx
          obtain ⟨k9, hk9⟩ : ∃ k, l.length - 1 = k := ⟨_, rfl⟩
          rw [hk9] at hx
          have hwk : IntKind.i64.wrap ((l.length : Int) - 1) = (k9 : Int) := (IntWalk.i64_in _ (by omega)).trans (by omega)
          have hk9a : (k9 : Int) < (l.length : Int) := by omega
          have hk9b : (0 : Int) ≤ (k9 : Int) := by omega
          have hlp : 0 < l.length := by omega
          have c9 : wr.cell? ⟨gu, k9, none⟩ = some (.int .i64 (x : Int)) := by
            have c1 := hcs k9 (.int .i64 (x : Int)) (by simp [icl, hx])
            exact (bcell HB.out _ _ (block_lt_of_cell c1)).trans c1
          have hwx : IntKind.i64.wrap ((x : Int) + 1) = ((f0 : Nat) : Int) := (IntWalk.i64_in _ (by omega)).trans (by omega)
          clear hx hfx hk9
          go_wp2_with fail
          go_loopg [5, 9] (n - f0) (fun z ov iv wr => ∃ (d : Nat) (rw_ : List Value), iv = .int .i64 ((f0 + d : Nat) : Int) ∧ z + d = n - f0 ∧ wr.ownsRow w1.heap.size 124 1 ov (M0.length + d) rw_ ∧ RowsOf wr w1.heap.size rw_ (M0 ++ (rngL f0 d).map fun i => l ++ [i]) ∧ Below w1.heap.size w1 wr)
          case atStart => exact ⟨0, rw_, rfl, by omega, HOWN.out, by simpa [rngL] using HRO.out, HB.out⟩
          case round =>
            obtain ⟨d, rv, rfl, hq, hown, hro, hb⟩ := hrel
            have HQ1 := hide hq
            have HOWN1 := hide hown
            have HRO1 := hide hro
            have HB1' := hide hb
            have hdl : d ≤ n - f0 := by omega
            clear hq hown hro hb
            by_cases hld : d < n - f0
            · have hdi : ((f0 + d : Nat) : Int) < (n : Int) := by omega
              have hw1 : IntKind.i64.wrap (((f0 + d : Nat) : Int) + 1) = ((f0 + (d + 1) : Nat) : Int) := (IntWalk.i64_in _ (by omega)).trans (by omega)
              obtain ⟨i, hii⟩ : ∃ i, f0 + d = i := ⟨_, rfl⟩
              have HII := hide hii
              rw [hii] at hdi hw1
              rw [hii]
              clear hii
              have hsz : w1.heap.size ≤ wr.heap.size := HB1'.out.size
              have hemp := World.ownsRow_lit (base := wr.heap.size) (e := 3) (size := 1) wr #[] 0 (Nat.le_refl _) (by unfold maxLen; omega) rfl
              have hbe := (Below.refl wr.heap.size wr).alloc (Nat.le_refl _) (.cells #[] 3)
              have hwz : wr.heap.size ≤ (wr.alloc (.cells #[] 3)).heap.size := by simp
              have hcd : ∀ j u, (icl l)[j]? = some u → (wr.alloc (.cells #[] 3)).cell? ⟨gu, j, none⟩ = some u := fun j u hj => by
                have c1 := hcs j u hj
                have c2 := (bcell HB1'.out _ _ (block_lt_of_cell c1)).trans c1
                exact (bcell hbe _ _ (block_lt_of_cell c2)).trans c2
              go_wp2_with (at_builtin; refine wpList_append_own _ rfl _ _ 124 rfl wr.heap.size 3 i0 (.int .i64 0) 1 8 Tryz.underlying124 HINF.out HZ0.out HZ1.out HZ2.out rfl (by decide) _ _ _ rfl hemp ⟨gu, 0, none⟩ l.length cu (icl l) rfl (by simp [icl]) ?hd13 ?hd23 ?hd33 ?hd43 ?hd53 ?_)
              try (case hd13 => (intro j u hj; simpa [Addr.add] using hcd j u hj))
              try (case hd23 => (intro u hu; simp [icl] at hu; obtain ⟨_, _, rfl⟩ := hu; rfl))
              try (case hd33 => (unfold maxLen; omega))
              try (case hd43 => (omega))
              try (case hd53 => exact hwz)
              intro v2 w2 ho2 hg2 _
              replace ho2 : w2.ownsRow wr.heap.size 3 1 v2 l.length (icl l) := by first | exact ho2 | simpa using ho2
              have hb2 : Below wr.heap.size wr w2 := hbe.grown hg2 hwz (fun k e => by simp [Value.ownBlock] at e; omega)
              clear hemp hbe hwz hg2 hcd
              have hz2s : wr.heap.size ≤ w2.heap.size := hb2.size
              go_wp2_with (at_builtin; refine wpList_append_own _ rfl _ _ 124 rfl wr.heap.size 3 i0 (.int .i64 0) 1 8 Tryz.underlying124 HINF.out HZ0.out HZ1.out HZ2.out rfl (by decide) _ _ _ rfl (ho2.alloc _) ⟨w2.heap.size, 0, none⟩ 1 1 [.int .i64 (i : Int)] rfl rfl ?he13 ?he23 ?he33 ?he43 ?he53 ?_)
              try (case he13 => (intro j u hj; match j, hj with | 0, hj => (simp at hj; subst hj; simp [Addr.add])))
              try (case he23 => first | (intro u hu; simp at hu; subst hu; rfl) | rfl | simp [Value.oneCell'])
              try (case he33 => first | (unfold maxLen; omega) | (simp [maxLen]))
              try (case he43 => (omega))
              try (case he53 => first | (simp; omega) | omega | simp)
              intro v3 w3 ho3 hg3 _
              rw [icl_snoc] at ho3
              have hb3 : Below wr.heap.size wr w3 := (hb2.alloc hz2s _).grown hg3 (by simp; omega) (fun k e => (ho2.lt k e).1)
              have hz3s : wr.heap.size ≤ w3.heap.size := hb3.size
              obtain ⟨g3, c3, rfl⟩ := ownsRow_succ ho3
              have hown3 := owns_below HOWN1.out hb3
              have hro3 := HRO1.out.below hb3
              clear hg3 ho2 hb2 hz2s
              obtain ⟨nl, hnl⟩ : ∃ k, l.length + 1 = k := ⟨_, rfl⟩
              rw [hnl] at ho3 ⊢
              go_wp2_with (at_builtin; refine wpList_append_own _ rfl _ _ 121 rfl w1.heap.size 124 s0 (.slice none 0 0) 1 24 Tryz.underlying121 HINS.out HY0.out HY1.out HY2.out rfl (by decide) _ _ _ rfl (hown3.alloc _) ⟨w3.heap.size, 0, none⟩ 1 1 [.slice (some ⟨g3, 0, none⟩) nl c3] rfl rfl ?hf13 ?hf23 ?hf33 ?hf43 ?hf53 ?_)
              try (case hf13 => (intro j u hj; match j, hj with | 0, hj => (simp at hj; subst hj; simp [Addr.add])))
              try (case hf23 => first | (intro u hu; simp at hu; subst hu; rfl) | rfl | simp [Value.oneCell'])
              try (case hf33 => first | (unfold maxLen; omega) | (simp [maxLen]))
              try (case hf43 => (omega))
              try (case hf53 => first | (simp; omega) | omega | simp)
              intro v4 w4 ho4 hg4 _
              have hro4 := (hro3.below ((Below.refl w3.heap.size w3).alloc (Nat.le_refl _) _)).own (hown3.alloc _) hg4
              have hu4 := row_other (ho3.alloc _) (hown3.alloc _) hg4
              have hb4 : Below w1.heap.size w1 w4 := ((HB1'.out.trans (hb3.mono hsz)).alloc (by omega) _).grown hg4 (by simp; omega) (fun k e => (hown3.lt k e).1)
              have hsn := hro4.snoc (l := l ++ [i]) (by rw [List.length_append, List.length_singleton, hnl]; exact own_mono hu4 hsz)
              have HO4 := hide ho4
              have HS4 := hide hsn
              have HB4 := hide hb4
              clear hro3 hown3 hro4 hu4 hg4 ho4 hsn hb4 ho3 hb3 hnl
              go_wp2_with fail
              go_roundg (gk - 1)
              case measure => have := HQ1.out; omega
              case rel => exact ⟨d + 1, rv ++ [.slice (some ⟨g3, 0, none⟩) nl c3], by go_num, by have := HQ1.out; omega, HO4.out, by rw [rngL_snoc, List.map_append, ← List.append_assoc, HII.out]; exact HS4.out, HB4.out⟩
            · have hdi : ¬ ((f0 + d : Nat) : Int) < (n : Int) := by omega
              have hd : d = n - f0 := by omega
              go_wp2_with fail
              go_roundg (g0 - 1)
              case measure => have := HQ.out; have := HG0.out; omega
              case rel => exact ⟨j + 1, rv, by go_num, by have := HQ.out; have := HG0.out; omega, by rw [HTK.out, List.length_append, stepL, List.length_map, rngL_len, HF0.out, ← hd]; exact HOWN1.out, by rw [HTK.out, stepL, HF0.out, ← hd]; exact HRO1.out, HB1'.out⟩
    · have hji : ¬ (j : Int) < (P.length : Int) := by omega
      obtain rfl : j = P.length := by omega
      have hM : M0 = listsL n (k + 1) := by rw [HL1.out, ← HM0.out, List.take_length]
      rw [hM] at HOWN HRO
      clear hM
      go_wp2_with fail
      go_ret
      refine ⟨_, rfl, ?_, HB1.out.trans (HB.out.mono HB1.out.size)⟩
      exact ⟨rw_, own_mono HOWN.out HB1.out.size, HRO.out.mono HB1.out.size⟩

theorem lists_any (n : Nat) (hn : n ≤ 9) : ∀ (k : Nat), k ≤ n → ∀ w, Calls Tryz.prog 92 #[.int .i64 (n : Int), .int .i64 (k : Int)] w fun e w' => ∃ v, e = .returned v ∧ LlsOf w w' (listsL n k) v ∧ Below w.heap.size w w'
  | 0, _, w => lists_zero w n
  | k + 1, h, w => lists_succ n k hn h (lists_any n hn k (by omega)) (fun l hl => listsL_length n k l hl) w
end Go.Proofs.YtaccdkbofhlbkaaGreatDoor
