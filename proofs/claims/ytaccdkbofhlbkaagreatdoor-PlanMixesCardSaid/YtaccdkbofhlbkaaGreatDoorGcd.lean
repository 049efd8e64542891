/- whole: Gcd, Compare. -/
import Derived.Test.YtaccdkbofhlbkaaGreatDoorDiv
namespace Go.Proofs.YtaccdkbofhlbkaaGreatDoor
open Go.RowKit MLab

set_option maxRecDepth 100000 in
set_option maxHeartbeats 4000000 in
theorem gcd_any (w : World) (a b : ByteArray) (x y : Int) (h : Two a b x y) (hs : Std w) :
    Calls Tryz.prog 134 #[.string a, .string b] w fun e w' => e = .returned (.tuple #[.string ⟨(T (Int.gcd x y : Int)).toArray⟩, .int .i64 0]) ∧ Below w.heap.size w w' := by
  have H := hide h
  have HS := hide hs
  clear h hs
  go_enter Tryz.func134, Tryz.ntmps134
  go_wp2_with fail
  refine (all_two _ _ _ x y H.out.ha H.out.hb H.out.bx H.out.bz _).mono ?_
  rintro e w1 ⟨rfl, hb1⟩
  have K1 := hide hb1
  clear hb1
  go_wp2_with fail
  refine (read_any _ _ H.out.ha H.out.bx _).mono ?_
  rintro e w2 ⟨rfl, hb2, mx, dx, hWx, hRx, hmx, hnx⟩
  have A1 := hide hb2
  have A2 := hide hWx
  have A3 := hide hRx
  have A4 := hide hnx
  clear hb2 hWx hRx hnx
  go_wp2_with fail
  refine (read_any _ _ H.out.hb H.out.bz _).mono ?_
  rintro e w3 ⟨rfl, hb3, my, dy, hWy, hRy, hmy, hny⟩
  have B1 := hide hb3
  have B2 := hide hWy
  have B3 := hide hRy
  have B4 := hide hny
  have hlt := A2.out.lt
  have hw1 := K1.out.size
  have hG : Nat.gcd (num dx mx) (num dy my) = Int.gcd x y := by rw [A4.out, hny]; rfl
  obtain ⟨G, hGG⟩ : ∃ G, G = Int.gcd x y := ⟨_, rfl⟩
  rw [← hGG] at hG
  have HG := hide hG
  have HGG := hide hGG
  have KK := hide ((K1.out.trans (A1.out.mono hw1)).trans (hb3.mono (by omega)))
  have A5 := hide (A2.out.below hb3 hlt)
  clear hb3 hWy hRy hny hG hGG
  go_wp2_with fail
  go_loopg [7, 8] (num dy my) (fun k px py wr => ∃ (b1 b2 : Nat) (l1 l2 : Bool) (n1 n2 : Nat) (d1 d2 : Nat → Nat), px = .pointer (some ⟨b1, 0, none⟩) ∧ py = .pointer (some ⟨b2, 0, none⟩) ∧ k = num d2 n2 ∧ w.heap.size ≤ b1 ∧ w.heap.size ≤ b2 ∧ b1 ≠ b2 ∧
    n1 ≤ 230 ∧ n2 ≤ 230 ∧ Wd wr b1 l1 n1 d1 ∧ Wd wr b2 l2 n2 d2 ∧ Rt n1 d1 ∧ Rt n2 d2 ∧ Nat.gcd (num d1 n1) (num d2 n2) = G ∧ Below w.heap.size w wr)
  case atStart => exact ⟨w1.heap.size, w2.heap.size, _, _, mx, my, dx, dy, rfl, rfl, rfl, by omega, by omega, by omega, by omega, by omega, A5.out, B2.out, A3.out, B3.out, HG.out, KK.out⟩
  case round =>
    obtain ⟨b1, b2, l1, l2, n1, n2, d1, d2, rfl, rfl, hk, hb1, hb2, hne, hn1, hn2, hW1, hW2, hR1, hR2, hg, hbl⟩ := hrel
    have c1 : wr.cell? ⟨b1, 1, none⟩ = some (.int .i64 (n1 : Int)) := hW1.cnt
    have c2 : wr.cell? ⟨b2, 1, none⟩ = some (.int .i64 (n2 : Int)) := hW2.cnt
    have HK := hide hk
    have W1 := hide hW1
    have W2 := hide hW2
    have R1 := hide hR1
    have R2 := hide hR2
    have GG := hide hg
    have BL := hide hbl
    clear hk hW1 hW2 hR1 hR2 hg hbl A2 A3 A4 A5 B2 B3 B4
    by_cases h0 : n2 = 0
    · have hd : ¬ (0 < n2) := by omega
      have c3 : wr.cell? ⟨b1, 0, none⟩ = some (.bool l1) := W1.out.sgn
      have f3 : wr.frozen? ⟨b1, 0, none⟩ = false := W1.out.frozen 0
      have hG1 : sval false (num d1 n1) = (G : Int) := by
        have := GG.out
        rw [h0, num_zero, Nat.gcd_zero_right] at this
        rw [← this]; rfl
      have HG1 := hide hG1
      clear hG1 h0
      go_wp2_with fail
      refine (text_any _ _ false _ _ (W1.out.setLess false) R1.out (HS.out.below (BL.out.setCell hb1 _) (Nat.le_refl _))).mono ?_
      rintro e w5 ⟨rfl, hb5⟩
      have K5 := hide ((BL.out.setCell (p := ⟨b1, 0, none⟩) hb1 (.bool false)).trans (hb5.mono (by have := BL.out.size; simpa [World.setCell] using this)))
      clear hb5
      go_wp2_with fail
      go_ret2
      refine ⟨?_, K5.out⟩
      rw [HG1.out, HGG.out]; rfl
    · have hd : 0 < n2 := by omega
      by_cases hsm : n1 ≤ 1 ∧ n2 ≤ 1
      · obtain ⟨hs1, hs2⟩ := hsm
        have i1 : (n1 : Int) ≤ 1 := by omega
        have i2 : (n2 : Int) ≤ 1 := by omega
        have v1 : num d1 n1 = d1 0 := by
          rcases Nat.eq_zero_or_pos n1 with h | h
          · rw [h, R1.out.ends 0 (by omega)]; rfl
          · rw [show n1 = 1 by omega]; simp [num]
        have v2 : num d2 n2 = d2 0 := by rw [show n2 = 1 by omega]; simp [num]
        have hgg : Nat.gcd (d1 0) (d2 0) = G := by rw [← v1, ← v2]; exact GG.out
        have e1 : wr.cell? ⟨b1, 2, none⟩ = some (.int .i64 (d1 0 : Int)) := by have := W1.out.at_ (i := 0) (by omega); simpa using this
        have e2 : wr.cell? ⟨b2, 2, none⟩ = some (.int .i64 (d2 0 : Int)) := by have := W2.out.at_ (i := 0) (by omega); simpa using this
        have t1 : d1 0 < 1000000000 := R1.out.lows 0
        have t2 : d2 0 < 1000000000 := R2.out.lows 0
        have HGR := hide hgg
        clear v1 v2 hgg h0
        go_wp2_with fail
        go_quiet (fail)
        go_wp2_with fail
        go_loopg [9, 10] (d2 0) (fun k pm pn wi => ∃ (m n q : Nat), pm = .int .i64 (m : Int) ∧ pn = .int .i64 (n : Int) ∧ k = n ∧ m < 1000000000 ∧ n < 1000000000 ∧ Nat.gcd m n = G ∧ wi = wr.drewN q)
        case atStart => exact ⟨d1 0, d2 0, _, rfl, rfl, rfl, t1, t2, HGR.out, rfl⟩
        case round =>
          obtain ⟨m, n, q, rfl, rfl, hk, hm, hn, hgmn, rfl⟩ := hrel
          have HK2 := hide hk
          have GMN := hide hgmn
          clear hk hgmn
          by_cases hn0 : n = 0
          · have hz : ((n : Int) != 0) = false := by rw [hn0]; rfl
            have hmg : m = G := by have := GMN.out; rw [hn0, Nat.gcd_zero_right] at this; exact this
            have HMG := hide hmg
            clear hmg hn0
            go_wp2_with fail
            refine (of_any _ (by omega) (by omega) _ (HS.out.below (below_drewN BL.out _) (Nat.le_refl _))).mono ?_
            rintro e w5 ⟨rfl, hb5⟩
            have K5 := hide ((below_drewN BL.out q).trans (hb5.mono (by have := BL.out.size; simpa using this)))
            clear hb5
            go_wp2_with fail
            go_ret2
            refine ⟨?_, K5.out⟩
            rw [← HGG.out, ← HMG.out]; rfl
          · have hz : ((n : Int) != 0) = true := by rw [bne_iff_ne]; omega
            have hz2 : ((n : Int) == 0) = false := by rw [beq_eq_false_iff_ne]; omega
            have hmod : (m : Int).tmod (n : Int) = ((m % n : Nat) : Int) := by rw [Int.tmod_eq_emod_of_nonneg (by omega)]; simp
            have hml : m % n < n := Nat.mod_lt _ (by omega)
            have ew : IntKind.i64.wrap ((m : Int).tmod (n : Int)) = ((m % n : Nat) : Int) := by rw [hmod]; exact IntWalk.i64_in _ ⟨by omega, by omega⟩
            have HMOD := hide hmod
            clear hmod
            go_wp2_with fail
            go_quiet (fail)
            go_wp2_with fail
            go_roundg (m % n)
            case measure => have := HK2.out; omega
            case rel =>
              refine ⟨n, m % n, _, rfl, ?_, rfl, hn, by omega, ?_, World.drewN_drewN _ _ _⟩
              · first | rfl | (rw [HMOD.out]) | (congr 1)
              · rw [Nat.gcd_comm, ← Nat.gcd_rec, Nat.gcd_comm]; exact GMN.out
      · have hpos : 0 < num d2 n2 := Nat.pos_of_ne_zero fun e => h0 ((num_zero_iff R2.out.full).1 e)
        have h230 : n2 ≤ 230 := hn2
        by_cases i1 : n1 ≤ 1
        · have j1 : (n1 : Int) ≤ 1 := by omega
          have j2 : ¬ (n2 : Int) ≤ 1 := by omega
          clear h0 hsm i1
          go_wp2_with fail
          refine (divided_any _ _ _ _ _ _ _ _ _ W1.out W2.out R1.out R2.out hd h230).mono ?_
          rintro e w5 ⟨rfl, hb5, nq, dq, nr, dr, hWq, hWr, hRq, hRr, hnq, hnr⟩
          have hr1 : num dr nr < num d2 n2 := by rw [hnr]; exact Nat.mod_lt _ hpos
          have hr2 : nr ≤ n2 := Nat.le_of_not_lt fun h => by have := full_lt R2.out.lows hRr.full h; omega
          have hgc : Nat.gcd (num d2 n2) (num dr nr) = G := by rw [hnr, Nat.gcd_comm, ← Nat.gcd_rec, Nat.gcd_comm]; exact GG.out
          have D1 := hide hb5
          have D2 := hide hWr
          have D3 := hide hRr
          have D4 := hide hgc
          have l2 := W2.out.lt
          have s5 := BL.out.size
          clear hb5 hWq hWr hRq hRr hnq hnr hgc
          go_wp2_with fail
          go_roundg (num dr nr)
          case measure => have := HK.out; omega
          case rel => exact ⟨b2, wr.heap.size + 1, _, _, n2, nr, d2, dr, rfl, rfl, rfl, hb2, by omega, by omega, by omega, by omega, W2.out.below D1.out l2, D2.out, R2.out, D3.out, D4.out, BL.out.trans (D1.out.mono s5)⟩
        · have j1 : ¬ (n1 : Int) ≤ 1 := by omega
          clear h0 hsm i1
          go_wp2_with fail
          refine (divided_any _ _ _ _ _ _ _ _ _ W1.out W2.out R1.out R2.out hd h230).mono ?_
          rintro e w5 ⟨rfl, hb5, nq, dq, nr, dr, hWq, hWr, hRq, hRr, hnq, hnr⟩
          have hr1 : num dr nr < num d2 n2 := by rw [hnr]; exact Nat.mod_lt _ hpos
          have hr2 : nr ≤ n2 := Nat.le_of_not_lt fun h => by have := full_lt R2.out.lows hRr.full h; omega
          have hgc : Nat.gcd (num d2 n2) (num dr nr) = G := by rw [hnr, Nat.gcd_comm, ← Nat.gcd_rec, Nat.gcd_comm]; exact GG.out
          have D1 := hide hb5
          have D2 := hide hWr
          have D3 := hide hRr
          have D4 := hide hgc
          have l2 := W2.out.lt
          have s5 := BL.out.size
          clear hb5 hWq hWr hRq hRr hnq hnr hgc
          go_wp2_with fail
          go_roundg (num dr nr)
          case measure => have := HK.out; omega
          case rel => exact ⟨b2, wr.heap.size + 1, _, _, n2, nr, d2, dr, rfl, rfl, rfl, hb2, by omega, by omega, by omega, by omega, W2.out.below D1.out l2, D2.out, R2.out, D3.out, D4.out, BL.out.trans (D1.out.mono s5)⟩

/-! ### Compare -/

theorem cmp_bytes : ∀ (a b : List UInt8), Dig a → Dig b → a.length = b.length → Lib.compareBytes a b = ((val a : Int) - val b).sign
  | [], [], _, _, _ => by simp [Lib.compareBytes, val]
  | [], _ :: _, _, _, h => by simp at h
  | _ :: _, [], _, _, h => by simp at h
  | x :: s, y :: t, hx, hy, h => by
    have hl : s.length = t.length := by simpa using h
    have ih := cmp_bytes s t hx.tail hy.tail hl
    have v1 := val_lt hx.tail
    have v2 := val_lt hy.tail
    have h1 := hx.head
    have h2 := hy.head
    rw [val_cons, val_cons, ← hl]
    rw [← hl] at v2
    generalize 10 ^ s.length = P at *
    rw [Lib.compareBytes]
    by_cases hlt : x < y
    · rw [if_pos hlt]
      have hn : x.toNat < y.toNat := UInt8.lt_iff_toNat_lt.1 hlt
      have := Nat.mul_le_mul_right P (show x.toNat - 48 + 1 ≤ y.toNat - 48 by omega)
      rw [Nat.add_mul, Nat.one_mul] at this
      exact (Int.sign_eq_neg_one_iff_neg.2 (by omega)).symm
    · rw [if_neg hlt]
      by_cases hgt : y < x
      · rw [if_pos hgt]
        have hn : y.toNat < x.toNat := UInt8.lt_iff_toNat_lt.1 hgt
        have := Nat.mul_le_mul_right P (show y.toNat - 48 + 1 ≤ x.toNat - 48 by omega)
        rw [Nat.add_mul, Nat.one_mul] at this
        exact (Int.sign_eq_one_iff_pos.2 (by omega)).symm
      · rw [if_neg hgt, ih]
        have e : x = y := by
          have h3 : ¬ x.toNat < y.toNat := fun h => hlt (UInt8.lt_iff_toNat_lt.2 h)
          have h4 : ¬ y.toNat < x.toNat := fun h => hgt (UInt8.lt_iff_toNat_lt.2 h)
          exact UInt8.toNat_inj.1 (by omega)
        rw [e]
        congr 1
        omega

set_option maxRecDepth 100000 in
set_option maxHeartbeats 1000000 in
theorem order_any (w : World) (s t : ByteArray) (m n : Nat) (hs : s.data.toList = Lib.decDigits m) (ht : t.data.toList = Lib.decDigits n) :
    Calls Tryz.prog 119 #[.string s, .string t] w fun e w' => e = .returned (.int .i64 ((m : Int) - n).sign) ∧ w = w' := by
  have h1 : s.size = (Lib.decDigits m).length := by rw [Lib.size_eq, hs]
  have h2 : t.size = (Lib.decDigits n).length := by rw [Lib.size_eq, ht]
  have p1 := dec_length_pos m
  have p2 := dec_length_pos n
  by_cases he : s.size = t.size
  · have hb : ((s.size : Int) != (t.size : Int)) = false := by rw [he]; simp
    have hc : Lib.compareBytes s.data.toList t.data.toList = ((m : Int) - n).sign := by
      rw [hs, ht, cmp_bytes _ _ (dec_dig _) (dec_dig _) (by omega), val_dec, val_dec]
    have HC := hide hc
    clear hs ht h1 h2 hc he
    go_enter Tryz.func119, Tryz.ntmps119
    go_wp2_with fail
    refine (Tryz.strings_Compare _ _ _).mono ?_
    rintro e w1 ⟨rfl, rfl⟩
    rw [HC.out]
    go_wp2_with fail
    go_ret
    exact ⟨rfl, rfl⟩
  · have hb : ((s.size : Int) != (t.size : Int)) = true := by rw [bne_iff_ne]; omega
    by_cases hlt : s.size < t.size
    · have hli : (s.size : Int) < (t.size : Int) := by omega
      have hmn : m < n := by
        have h3 := pow_le_of_length (n := n) (k := s.size) (by omega) (by omega)
        have h4 := (dec_length_le (n := m) (k := s.size) (by omega)).1 (by omega)
        omega
      have hsg : ((m : Int) - n).sign = -1 := Int.sign_eq_neg_one_iff_neg.2 (by omega)
      rw [hsg]
      clear hs ht h1 h2 he hsg
      go_enter Tryz.func119, Tryz.ntmps119
      go_wp2_with fail
      go_ret
      exact ⟨rfl, rfl⟩
    · have hli : ¬ (s.size : Int) < (t.size : Int) := by omega
      have hmn : n < m := by
        have h3 := pow_le_of_length (n := m) (k := t.size) (by omega) (by omega)
        have h4 := (dec_length_le (n := n) (k := t.size) (by omega)).1 (by omega)
        omega
      have hsg : ((m : Int) - n).sign = 1 := Int.sign_eq_one_iff_pos.2 (by omega)
      rw [hsg]
      clear hs ht h1 h2 he hsg
      go_enter Tryz.func119, Tryz.ntmps119
      go_wp2_with fail
      go_ret
      exact ⟨rfl, rfl⟩

theorem sign_cmp (x y : Int) : (x.sign < y.sign → (x - y).sign = -1) ∧ (y.sign < x.sign → (x - y).sign = 1) ∧ (x.sign = y.sign → x.sign * (((x.natAbs : Int) - y.natAbs).sign) = (x - y).sign) := by
  rcases Int.lt_trichotomy x 0 with hx | hx | hx <;> rcases Int.lt_trichotomy y 0 with hy | hy | hy
  all_goals
    first
      | rw [Int.sign_eq_neg_one_iff_neg.2 hx]
      | rw [Int.sign_eq_one_iff_pos.2 hx]
      | subst hx
    first
      | rw [Int.sign_eq_neg_one_iff_neg.2 hy]
      | rw [Int.sign_eq_one_iff_pos.2 hy]
      | subst hy
    refine ⟨fun h => ?_, fun h => ?_, fun h => ?_⟩
    all_goals first
      | (exfalso; simp at h; done)
      | exact Int.sign_eq_neg_one_iff_neg.2 (by omega)
      | exact Int.sign_eq_one_iff_pos.2 (by omega)
      | (rw [show (x.natAbs : Int) - y.natAbs = -(x - y) by omega, Int.sign_neg]; omega)
      | (rw [show (x.natAbs : Int) - y.natAbs = x - y by omega]; omega)
      | simp

theorem sign_bounds (x : Int) : -1 ≤ x.sign ∧ x.sign ≤ 1 := by
  rcases Int.lt_trichotomy x 0 with h | h | h
  · rw [Int.sign_eq_neg_one_iff_neg.2 h]; decide
  · rw [h]; decide
  · rw [Int.sign_eq_one_iff_pos.2 h]; decide

set_option maxRecDepth 100000 in
set_option maxHeartbeats 2000000 in
theorem compare_any (w : World) (a b : ByteArray) (x y : Int) (h : Two a b x y) :
    Calls Tryz.prog 75 #[.string a, .string b] w fun e w' => e = .returned (.tuple #[.int .i64 (x - y).sign, .int .i64 0]) ∧ Below w.heap.size w w' := by
  have H := hide h
  obtain ⟨s1, s2, s3⟩ := sign_cmp x y
  have S1 := hide s1
  have S2 := hide s2
  have S3 := hide s3
  clear h s1 s2 s3
  go_enter Tryz.func75, Tryz.ntmps75
  go_wp2_with fail
  refine (all_two _ _ _ x y H.out.ha H.out.hb H.out.bx H.out.bz _).mono ?_
  rintro e w1 ⟨rfl, hb1⟩
  have K1 := hide hb1
  clear hb1
  go_wp2_with fail
  refine (sign_any _ _ x H.out.ha).mono ?_
  rintro e w2 ⟨rfl, rfl⟩
  go_wp2_with fail
  refine (sign_any _ _ y H.out.hb).mono ?_
  rintro e w2 ⟨rfl, rfl⟩
  have b1 := sign_bounds x
  have b2 := sign_bounds y
  obtain ⟨c1, c2⟩ := b1
  obtain ⟨c3, c4⟩ := b2
  generalize hp : x.sign = p at *
  generalize hq : y.sign = q at *
  have HP := hide hp
  have HQ := hide hq
  clear hp hq
  by_cases hlt : p < q
  · have hres := S1.out hlt
    have HR := hide hres
    clear hres
    go_wp2_with fail
    go_ret2
    refine ⟨?_, K1.out⟩
    rw [HR.out]; rfl
  · go_wp2_with fail
    refine (sign_any _ _ y H.out.hb).mono ?_
    rintro e w2 ⟨rfl, rfl⟩
    rw [HQ.out]
    by_cases hgt : q < p
    · have hres := S2.out hgt
      have HR := hide hres
      clear hres
      go_wp2_with fail
      go_ret2
      refine ⟨?_, K1.out⟩
      rw [HR.out]; rfl
    · have hres := S3.out (by omega)
      have HR := hide hres
      clear hres
      go_wp2_with fail
      refine (Tryz.strings_TrimPrefix _ _ _).mono ?_
      rintro e w2 ⟨rfl, rfl⟩
      go_wp2_with fail
      refine (Tryz.strings_TrimPrefix _ _ _).mono ?_
      rintro e w2 ⟨rfl, rfl⟩
      go_wp2_with fail
      refine (order_any _ _ _ x.natAbs y.natAbs (by simp only [H.out.ha]; rw [trimPrefix_mag, mag_T]) (by simp only [H.out.hb]; rw [trimPrefix_mag, mag_T])).mono ?_
      rintro e w2 ⟨rfl, rfl⟩
      have b3 := sign_bounds ((x.natAbs : Int) - y.natAbs)
      obtain ⟨c5, c6⟩ := b3
      generalize ((x.natAbs : Int) - y.natAbs).sign = r at *
      have c7 : p * r ≤ 1 ∧ -1 ≤ p * r := by
        have : p = -1 ∨ p = 0 ∨ p = 1 := by omega
        rcases this with h | h | h <;> rw [h] <;> omega
      obtain ⟨c8, c9⟩ := c7
      go_wp2_with fail
      go_ret2
      refine ⟨?_, K1.out⟩
      rw [← HR.out]; rfl
end Go.Proofs.YtaccdkbofhlbkaaGreatDoor
