/- ratio.Of; profile.tolerances, beyond and its closure. profile.failing: the indices that a test takes; the test by its contract. profile.Outside and its closure. -/
import Derived.Test.YtendaaghmeoddaaGreatDoorInts
import Derived.Test.YtendaaghmeoddaaGreatDoorPin
import Derived.Test.YtendaaghmeoddaaGreatDoorPnear
import Derived.Test.YtendaaghmeoddaaGreatDoorPord
import Derived.Test.YtendaaghmeoddaaGreatDoorRpin
import Derived.RangeFuncBox
import Derived.Laws.EntriesVeiled
namespace Go.Proofs.YtendaaghmeoddaaGreatDoor
open Go.RowKit MLab

set_option maxRecDepth 100000 in
set_option maxHeartbeats 1000000 in
theorem rof2_any (w : World) (n d : Int) (hn : -1000000000000000000 ≤ n ∧ n ≤ 1000000000000000000) (hd : -1000000000000000000 ≤ d ∧ d ≤ 1000000000000000000) (h0 : d ≠ 0) (hs : Std w) :
    Calls Tryz.prog 96 #[.int .i64 n, .int .i64 d] w fun e w' => RetRat (Rat.divInt n d) e ∧ Below w.heap.size w w' := by
  have bn : n.natAbs < Big := big_of_pow (k := 19) (by omega) (by decide)
  have bd : d.natAbs < Big := big_of_pow (k := 19) (by omega) (by decide)
  have HS := hide hs
  have O1 := hide (fun W (h : Std W) => of_any n (by omega) (by omega) W h)
  have O2 := hide (fun W (h : Std W) => of_any d (by omega) (by omega) W h)
  have M := hide (fun W (h : Std W) => make_any W ⟨(T n).toArray⟩ ⟨(T d).toArray⟩ n d ⟨rfl, rfl, bn, bd⟩ h0 h)
  clear bn bd hn hd hs h0
  go_enter Tryz.func96, Tryz.ntmps96
  go_wp2_with fail
  refine (O1.out _ HS.out).mono ?_
  rintro e w1 ⟨rfl, hb1⟩
  have HB1 := hide hb1
  clear hb1
  go_wp2_with fail
  refine (O2.out _ (HS.out.below HB1.out (Nat.le_refl _))).mono ?_
  rintro e w2 ⟨rfl, hb2⟩
  have HB2 := hide (HB1.out.trans (hb2.mono HB1.out.size))
  clear hb2
  go_wp2_with fail
  refine (M.out _ (HS.out.below HB2.out (Nat.le_refl _))).mono ?_
  rintro e w3 ⟨rfl, hb3⟩
  have HB3 := hide (HB2.out.trans (hb3.mono HB2.out.size))
  clear hb3
  go_wp2_with fail
  go_ret2
  exact ⟨rfl, HB3.out⟩

set_option maxRecDepth 100000 in
set_option maxHeartbeats 1000000 in
theorem ptol_any (w : World) (g c : Nat) (l : List Int) (hl : l.length ≤ 1000) (hc : ∀ (i : Nat) n, l[i]? = some n → w.cell? ⟨g, i, none⟩ = some (.int .i64 n)) :
    Calls Tryz.prog 56 #[.slice (some ⟨g, 0, none⟩) l.length c] w fun e w' => e = .returned (.int .i64 (if l.all (fun n => decide (Tl n)) = true then 0 else 2)) ∧ Below w.heap.size w w' := by
  obtain ⟨R, hR⟩ : ∃ R : Int, (if l.all (fun n => decide (Tl n)) = true then 0 else 2) = R := ⟨_, rfl⟩
  rw [hR]
  have HR := hide hR
  have HC := hide hc
  clear hR hc
  go_enter Tryz.func56, Tryz.ntmps56
  go_wp2_with fail
  go_loopg [7] l.length (fun q iv wr => ∃ j : Nat, iv = .int .i64 (j : Int) ∧ q + j = l.length ∧ (∀ (i : Nat) n, i < j → l[i]? = some n → Tl n) ∧ Below w.heap.size w wr)
  case atStart => exact ⟨0, rfl, by omega, fun i n h => absurd h (by omega), Below.refl _ _⟩
  case round =>
    obtain ⟨j, rfl, hq, ht, hb⟩ := hrel
    have hj : j ≤ l.length := by omega
    have HQ := hide hq
    have HT := hide ht
    have HB := hide hb
    clear hq ht hb
    by_cases hlt : j < l.length
    · have hji : (j : Int) < (l.length : Int) := by omega
      obtain ⟨n, hn⟩ : ∃ n, l[j]? = some n := ⟨_, List.getElem?_eq_getElem hlt⟩
      have a := HC.out j n hn
      have a2 := (bcell HB.out _ _ (block_lt_of_cell a)).trans a
      have HN := hide hn
      clear a hn
      by_cases h1 : n < 0
      · have e0 : R = 2 := by
          rw [← HR.out, if_neg]
          intro h
          have := of_decide_eq_true (List.all_eq_true.1 h n (List.mem_of_getElem? HN.out))
          exact absurd this.1 (by omega)
        subst e0
        go_wp2_with fail
        go_ret
        exact ⟨rfl, HB.out⟩
      · by_cases h2 : 100000 < n
        · have e0 : R = 2 := by
            rw [← HR.out, if_neg]
            intro h
            have := of_decide_eq_true (List.all_eq_true.1 h n (List.mem_of_getElem? HN.out))
            exact absurd this.2 (by omega)
          subst e0
          go_wp2_with fail
          go_ret
          exact ⟨rfl, HB.out⟩
        · have htl : Tl n := ⟨by omega, by omega⟩
          have HTL := hide htl
          clear htl
          go_wp2_with fail
          go_roundg (gk - 1)
          case measure => have := HQ.out; omega
          case rel =>
            refine ⟨j + 1, by go_num, by have := HQ.out; omega, fun i m hi hm => ?_, HB.out⟩
            by_cases e : i = j
            · subst e; rw [HN.out] at hm; cases hm; exact HTL.out
            · exact HT.out i m (by omega) hm
    · have hji : ¬ (j : Int) < (l.length : Int) := by omega
      have e0 : R = 0 := by
        rw [← HR.out, if_pos]
        refine List.all_eq_true.2 fun n hn => decide_eq_true ?_
        obtain ⟨i, hi⟩ := List.getElem?_of_mem hn
        exact HT.out i n (by have := (List.getElem?_eq_some_iff.1 hi).1; omega) hi
      subst e0
      go_wp2_with fail
      go_ret
      exact ⟨rfl, HB.out⟩

/-- The number that beyond compares with. -/
def mostQ (n b : Int) : Rat := Rat.divInt (n * n) (b * b)
theorem mostQ_sz {n b : Int} (hn : Tl n) (hb : 1 ≤ b ∧ b ≤ 2) : Sz 30 30 (mostQ n b) := by
  have h1 := hn.sq
  have h2 : 1 ≤ b * b ∧ b * b ≤ 4 := ⟨by have := Int.mul_le_mul hb.1 hb.1 (by omega) (by omega); omega, by have := Int.mul_le_mul hb.2 hb.2 (by omega) (by omega); omega⟩
  have h := low_le (n * n) (y := b * b) (by omega)
  exact ⟨Nat.lt_of_le_of_lt h.1 (by omega), Nat.le_trans h.2 (by omega)⟩
theorem mostQ_one (n : Int) (q : Rat) : decide (mostQ n 1 < q) = farQ q n := by
  unfold mostQ farQ
  rw [show ((1 : Int) * 1) = 1 from rfl, show Rat.divInt (n * n) 1 = ((n * n : Int) : Rat) by rw [Rat.divInt_eq_div]; grind]
theorem mostQ_two (n : Int) (q : Rat) : decide (mostQ n 2 < q) = farQ (4 * q) n := by
  unfold mostQ farQ
  rw [show ((2 : Int) * 2) = 4 from rfl]
  refine decide_eq_decide.2 ?_
  have h : Rat.divInt (n * n) 4 = ((n * n : Int) : Rat) / 4 := by
    rw [Rat.divInt_eq_div]; rfl
  rw [h]
  generalize ((n * n : Int) : Rat) = x
  constructor
  · intro h
    have := Rat.mul_lt_mul_of_pos_left h (show (0 : Rat) < 4 by decide)
    grind
  · intro h
    apply Rat.not_le.1
    intro h2
    have := Rat.mul_le_mul_of_nonneg_left h2 (show (0 : Rat) ≤ 4 by decide)
    grind

set_option maxRecDepth 100000 in
set_option maxHeartbeats 1000000 in
theorem pbeyond_any (w : World) (n b : Int) (hn : Tl n) (hb : 1 ≤ b ∧ b ≤ 2) (hs : Std w) :
    Calls Tryz.prog 57 #[.int .i64 n, .int .i64 b] w fun e w' => (∃ B, e = .returned (.func (.func 97) #[] #[.pointer (some ⟨B, 0, none⟩)]) ∧ w.heap.size ≤ B ∧ Boxed w' B 35 (.string ⟨(RT (mostQ n b)).toArray⟩)) ∧ Below w.heap.size w w' := by
  have h1 := hn.sq
  have h2 : 1 ≤ b * b ∧ b * b ≤ 4 := ⟨by have := Int.mul_le_mul hb.1 hb.1 (by omega) (by omega); omega, by have := Int.mul_le_mul hb.2 hb.2 (by omega) (by omega); omega⟩
  have w1 : IntKind.i64.wrap (n * n) = n * n := IntWalk.i64_in _ (by omega)
  have w2 : IntKind.i64.wrap (b * b) = b * b := IntWalk.i64_in _ (by omega)
  have HO := hide (rof2_any w (n * n) (b * b) (by omega) (by omega) (by omega) hs)
  obtain ⟨t, ht⟩ : ∃ t : ByteArray, (⟨(RT (mostQ n b)).toArray⟩ : ByteArray) = t := ⟨_, rfl⟩
  have HT := hide ht
  rw [ht]
  clear h1 h2 hn hb hs ht
  go_enter Tryz.func57, Tryz.ntmps57
  go_wp2_with fail
  refine HO.out.mono ?_
  unfold RetRat
  rw [show (⟨(RT (Rat.divInt (n * n) (b * b))).toArray⟩ : ByteArray) = t from HT.out]
  rintro e w3 ⟨rfl, hb3⟩
  have HB3 := hide hb3
  clear hb3
  go_wp2_with fail
  go_ret
  exact ⟨⟨_, rfl, HB3.out.size, Boxed.new _ _ _⟩, HB3.out.alloc HB3.out.size _⟩

set_option maxRecDepth 100000 in
set_option maxHeartbeats 1000000 in
theorem pbeyond1_any (w : World) (x : ByteArray) (q m : Rat) (B : Nat) (hx : x.data.toList = RT q) (hB : w.cell? ⟨B, 0, none⟩ = some (.string ⟨(RT m).toArray⟩)) (hq : Sz 30 30 q) (hm : Sz 30 30 m) (hs : Std w) :
    Calls Tryz.prog 97 #[.string x, .pointer (some ⟨B, 0, none⟩)] w fun e w' => e = .returned (.bool (decide (m < q))) ∧ Below w.heap.size w w' := by
  have HO := hide (porder_any w x ⟨(RT m).toArray⟩ q m hx rfl hq hm hs)
  have hss := cross_pos q m
  obtain ⟨s, hs0⟩ : ∃ s, (q.num * m.den - m.num * q.den).sign = s := ⟨_, rfl⟩
  rw [hs0] at HO hss
  obtain ⟨R, hR⟩ : ∃ R, decide (m < q) = R := ⟨_, rfl⟩
  rw [hR]
  obtain ⟨t, ht⟩ : ∃ t : ByteArray, (⟨(RT m).toArray⟩ : ByteArray) = t := ⟨_, rfl⟩
  rw [ht] at HO hB
  clear hx hq hm hs hs0 ht
  go_enter Tryz.func97, Tryz.ntmps97
  go_wp2_with fail
  refine HO.out.mono ?_
  rintro e w1 ⟨rfl, hb1⟩
  have HB1 := hide hb1
  clear hb1 hB
  have hd : decide (0 < s) = R := by rw [← hR]; exact decide_eq_decide.2 hss
  have HD := hide hd
  clear hss hR hd
  go_wp2_with fail
  go_ret
  exact ⟨by rw [← HD.out]; rfl, HB1.out⟩
end Go.Proofs.YtendaaghmeoddaaGreatDoor

namespace Go.Proofs.YtendaaghmeoddaaGreatDoor
open Go.RowKit MLab

/-- The points that v reads as lie below block B. -/
def PtB (B : Nat) (w : World) (v : Value) (L : List S2) : Prop := Pts w v L ∧ ∀ b off n c, v = .slice (some ⟨b, off, none⟩) n c → 0 < L.length → b < B
theorem PtB.below {B : Nat} {w w' : World} {v : Value} {L : List S2} (h : PtB B w v L) (hb : Below B w w') : PtB B w' v L := by
  obtain ⟨⟨A, c, hv, hc⟩, hB⟩ := h
  refine ⟨⟨A, c, hv, fun h0 => ?_⟩, hB⟩
  obtain ⟨b, off, hA, hcell⟩ := hc h0
  have hlt := hB b off _ _ (by rw [hv, hA]) h0
  exact ⟨b, off, hA, fun i p hi => ⟨(hb.cell (p := ⟨b, _, none⟩) hlt).trans (hcell i p hi).1, (hb.cell (p := ⟨b, _, none⟩) hlt).trans (hcell i p hi).2⟩⟩
theorem PtB.of {w : World} {v : Value} {L : List S2} (hv : Pts w v L) : PtB w.heap.size w v L := by
  refine ⟨hv, ?_⟩
  obtain ⟨A, c, rfl, hc⟩ := hv
  intro b off len cap h h0
  obtain ⟨rfl, rfl, rfl⟩ : A = some ⟨b, off, none⟩ ∧ L.length = len ∧ c = cap := by simpa using h
  obtain ⟨b', off', hA, hcell⟩ := hc h0
  obtain ⟨rfl, rfl⟩ : b = b' ∧ off = off' := by simpa using hA
  exact block_lt_of_cell (hcell 0 _ (gP_eq h0)).1
theorem PtB.mono {B B' : Nat} {w : World} {v : Value} {L : List S2} (h : PtB B w v L) (hB : B ≤ B') : PtB B' w v L := ⟨h.1, fun b o n c e h0 => Nat.lt_of_lt_of_le (h.2 b o n c e h0) hB⟩
/-- What a test keeps: what lies below n0, and from n1 on. -/
def KX (n0 n1 : Nat) (W W' : World) : Prop := Below n0 W W' ∧ ∀ b, n1 ≤ b → b < W.heap.size → W'.heap[b]? = W.heap[b]?
theorem KX.of_below {n0 n1 : Nat} {W W' : World} (h : Below W.heap.size W W') (hn : n0 ≤ W.heap.size) : KX n0 n1 W W' := ⟨h.mono hn, fun b _ hb => h.block b hb⟩
theorem KX.row {n0 n1 : Nat} {W W' : World} (h : KX n0 n1 W W') {base : Nat} {e : TypeId} {size n : Nat} {v : Value} {xs : List Value} (hn : n1 ≤ base) (ho : W.ownsRow base e size v n xs) : W'.ownsRow base e size v n xs := by
  refine ⟨ho.1, ?_⟩
  rcases ho.2 with h0 | ⟨g, cap, cur, rfl, hb, hgg, hr⟩
  · exact .inl h0
  · exact .inr ⟨g, cap, cur, rfl, hb, (h.2 g (Nat.le_trans hn hb) (Array.getElem?_eq_some_iff.1 hgg).1).trans hgg, hr⟩

set_option maxRecDepth 100000 in
set_option maxHeartbeats 4000000 in
theorem failing_any (w : World) (v : Value) (L : List S2) (c0 : Bool) (vp : Value) (P : List S2) (F : FuncId) (caps : Array Value) (n0 n1 : Nat) (g : Nat → Bool) (J : Nat → World → Prop)
    (hen : ∀ args w, (callFunc F args).run Tryz.prog w = .ok (.enter F args) w) (hn0 : n0 ≤ n1) (hn1 : n1 ≤ w.heap.size)
    (hs : ∀ W, Below n0 w W → Std W) (hv : PtB n0 w v L) (hvp : PtB n0 w vp P) (hc : chkP L c0 = 0) (hP : P.length ≤ 64) (hPr : RightS P)
    (hJ : ∀ i W W', J i W → Below w.heap.size W W' → J i W')
    (hT : ∀ (j : Nat) W, j < P.length → J j W → Below n0 w W → w.heap.size ≤ W.heap.size → Calls Tryz.prog F (#[.int .i64 (j : Int), .string ⟨(RT (dN L c0 (gP P j))).toArray⟩] ++ caps) W fun e W' => e = .returned (.bool (g j)) ∧ J (j + 1) W' ∧ KX n0 n1 W W')
    (h0 : J 0 w) :
    Calls Tryz.prog 58 #[v, .bool c0, vp, .func (.func F) #[] caps] w fun e w' => (∃ u, e = .returned (.tuple #[u, .int .i64 0]) ∧ IxL w' u (fl g P.length)) ∧ J P.length w' ∧ Below n0 w w' := by
  obtain ⟨g1, g2, g3⟩ := chkP_zero hc
  have HS := hide hs
  have HV := hide hv
  have HVP := hide hvp
  have HJ := hide hJ
  have HT := hide hT
  have HPR := hide hPr
  have HNR := hide (fun W (hS : Std W) (hV : Pts W v L) j => pnear_ok W v L c0 (gP P j).1 (gP P j).2 hS hV g1 g2 g3 (HPR.out j))
  obtain ⟨A, c, hvv, _⟩ := id hv.1
  obtain ⟨A2, c2, hvv2, hcell⟩ := id hvp.1
  subst hvv hvv2
  have HC := hide hcell
  have HLOW := hide hvp.2
  obtain ⟨i0, hi, hz0, hz1, hz2⟩ := info_parts info_int
  clear hs hv hvp hc hJ hT hPr g1 g2 g3 hcell
  go_enter Tryz.func58, Tryz.ntmps58
  go_wp2_with fail
  go_loopg [10, 18] P.length (fun q ov iv wr => ∃ j : Nat, iv = .int .i64 (j : Int) ∧ q + j = P.length ∧ wr.ownsRow w.heap.size 3 1 ov (fl g j).length (icl (fl g j)) ∧ J j wr ∧ Below n0 w wr ∧ w.heap.size ≤ wr.heap.size)
  case atStart => exact ⟨0, rfl, by omega, World.ownsRow_nil _ _ _ _, h0, Below.refl _ _, Nat.le_refl _⟩
  case round =>
    obtain ⟨j, rfl, hq, hown, hj, hb, hsz⟩ := hrel
    have HQ := hide hq
    have HOWN := hide hown
    have HJJ := hide hj
    have HB := hide hb
    have hjle : j ≤ P.length := by omega
    clear hq hown hj hb
    by_cases hlt : j < P.length
    · have hji : (j : Int) < (P.length : Int) := by omega
      obtain ⟨b, off, hA, hcell⟩ := HC.out (by omega)
      subst hA
      have hb0 : b < n0 := HLOW.out b off _ _ rfl (by omega)
      obtain ⟨x1, x2, hx⟩ : ∃ x y, gP P j = (x, y) := ⟨_, _, rfl⟩
      obtain ⟨a0, a1⟩ := hcell j _ (gP_eq hlt)
      rw [hx] at a0 a1
      have p0 := (HB.out.cell (p := ⟨b, off + j * 2, none⟩) hb0).trans a0
      have p1 := (HB.out.cell (p := ⟨b, off + j * 2 + 1, none⟩) hb0).trans a1
      have hnr := fun W hS hV => HNR.out W hS hV j
      rw [hx] at hnr
      have HNJ := hide hnr
      have ht := HT.out j
      have hT1 : ∀ W, J j W → Below n0 w W → w.heap.size ≤ W.heap.size → Calls Tryz.prog F (#[.int .i64 (j : Int), .string ⟨(RT (dN L c0 (gP P j))).toArray⟩] ++ caps) W fun e W' => e = .returned (.bool (g j)) ∧ J (j + 1) W' ∧ KX n0 n1 W W' := fun W => HT.out j W hlt
      rw [hx] at hT1
      unfold dN at hT1
      have hfs := fl_succ g j
      have hfl := fl_length g j
      have HFS := hide hfs
      have hb1 := allocs_below wr [.cells #[.int .i64 x1, .int .i64 x2] 24]
      have HBA := hide hb1
      obtain ⟨s, hs0⟩ : ∃ s : ByteArray, (⟨(RT (nearF (dq L (x1, x2)) (segN L c0 - 1)).1).toArray⟩ : ByteArray) = s := ⟨_, rfl⟩
      rw [hs0] at HNJ hT1
      obtain ⟨G, hG⟩ : ∃ G, g j = G := ⟨_, rfl⟩
      rw [hG] at hT1 HFS
      have HTJ := hide hT1
      clear hT1 ht hcell HC hx a0 a1 hnr hfs hb1 hs0 hG HNR HT
      go_wp2_with fail
      refine (HNJ.out _ (HS.out _ (HB.out.trans (HBA.out.mono (by omega)))) (HV.out.below (HB.out.trans (HBA.out.mono (by omega)))).1).mono ?_
      rintro e w2 ⟨rfl, hb2⟩
      have HB2 := hide (HBA.out.trans (hb2.mono HBA.out.size))
      clear hb2 p0 p1
      go_wp2_with fail
      refine (HTJ.out _ (HJ.out _ _ _ HJJ.out (HB2.out.mono hsz)) (HB.out.trans (HB2.out.mono (by omega))) (Nat.le_trans hsz HB2.out.size)).mono ?_
      rintro e w3 ⟨rfl, hj3, hk3⟩
      have HJ3 := hide hj3
      have HB3 := hide ((HB.out.trans (HB2.out.mono (by omega))).trans hk3.1)
      have hsz3 : w.heap.size ≤ w3.heap.size := Nat.le_trans (Nat.le_trans hsz HB2.out.size) hk3.1.size
      have hown := hk3.row hn1 (owns_below HOWN.out HB2.out)
      clear hj3 hk3
      cases G
      · rw [if_neg (by simp)] at HFS
        have HOW3 := hide hown
        clear hown
        go_wp2_with fail
        go_roundg (gk - 1)
        case measure => have := HQ.out; omega
        case rel => exact ⟨j + 1, by go_num, by have := HQ.out; omega, by rw [HFS.out]; exact HOW3.out, HJ3.out, HB3.out, hsz3⟩
      · rw [if_pos rfl] at HFS
        go_wp2_with (at_builtin; refine wpList_append_own _ rfl _ _ 48 rfl w.heap.size 3 i0 (.int .i64 0) 1 8 Tryz.underlying48 hi hz0 hz1 hz2 rfl (by decide) _ _ _ rfl (hown.alloc _) ⟨w3.heap.size, 0, none⟩ 1 1 [.int .i64 (j : Int)] rfl rfl ?d1 ?d2 ?d3 ?d4 ?d5 ?_)
        case d1 =>
          intro i u hj
          match i, hj with
          | 0, hj => simp at hj; subst hj; simp [Addr.add]
        case d2 => intro u hu; simp at hu; subst hu; rfl
        case d3 => unfold maxLen; omega
        case d4 => omega
        case d5 => simp; omega
        intro v' w4 hown' hgrow _
        rw [icl_snoc, ← HFS.out] at hown'
        have hb4 : Below w.heap.size w3 w4 := ((Below.refl w.heap.size w3).alloc hsz3 _).grown hgrow (by simp; omega) (fun k e => (hown.lt k e).1)
        have hlen : (fl g j).length + 1 = (fl g (j + 1)).length := by rw [HFS.out]; simp
        rw [hlen] at hown'
        have HOW4 := hide hown'
        have HJ4 := hide (HJ.out _ _ _ HJ3.out hb4)
        have HB4 := hide (HB3.out.trans (hb4.mono (by omega)))
        have hsz4 : w.heap.size ≤ w4.heap.size := Nat.le_trans hsz3 hb4.size
        clear hown' hgrow hb4 hown
        go_wp2_with fail
        go_roundg (gk - 1)
        case measure => have := HQ.out; omega
        case rel => exact ⟨j + 1, by go_num, by have := HQ.out; omega, HOW4.out, HJ4.out, HB4.out, hsz4⟩
    · have hji : ¬ (j : Int) < (P.length : Int) := by omega
      obtain rfl : j = P.length := by omega
      have hin := IxL.of_row HOWN.out rfl
      obtain ⟨A3, c3, rfl⟩ := hin.shape
      have HIN := hide hin
      clear hin
      go_wp2_with fail
      go_ret2
      exact ⟨⟨_, rfl, HIN.out⟩, HJJ.out, HB.out⟩
end Go.Proofs.YtendaaghmeoddaaGreatDoor

namespace Go.Proofs.YtendaaghmeoddaaGreatDoor
open Go.RowKit MLab

theorem tol_one (w : World) (n : Int) : ∀ (i : Nat) m, [n][i]? = some m → (w.alloc (.cells #[.int .i64 n] 3)).cell? ⟨w.heap.size, i, none⟩ = some (.int .i64 m) := by
  intro i m h
  match i, h with
  | 0, h => simp at h; subst h; exact (Blk.cell (Blk.new w 3 #[.int .i64 n]) 0).trans rfl
  | k + 1, h => simp at h
/-- What Outside returns: its error, its list. -/
def outE (L : List S2) (c : Bool) (P : List S2) (n : Int) : Int := if chkP L c = 0 then (if chkPtsN P = 0 then (if Tl n then 0 else 2) else chkPtsN P) else chkP L c
def outF (L : List S2) (c : Bool) (P : List S2) (n : Int) : Nat → Bool := fun i => farQ (4 * dN L c (gP P i)) n
def outL (L : List S2) (c : Bool) (P : List S2) (n : Int) : List Nat := if outE L c P n = 0 then fl (outF L c P n) P.length else []
theorem all_one (n : Int) : (if [n].all (fun n => decide (Tl n)) = true then (0 : Int) else 2) = if Tl n then 0 else 2 := by
  by_cases h : Tl n
  · rw [if_pos h, if_pos (by simpa using h)]
  · rw [if_neg h, if_neg (by simpa using h)]

set_option maxRecDepth 100000 in
set_option maxHeartbeats 1000000 in
theorem pout1_any (w : World) (i : Int) (x : ByteArray) (q m : Rat) (bx B : Nat) (hx : x.data.toList = RT q) (hbx : w.cell? ⟨bx, 0, none⟩ = some (.func (.func 97) #[] #[.pointer (some ⟨B, 0, none⟩)])) (hB : w.cell? ⟨B, 0, none⟩ = some (.string ⟨(RT m).toArray⟩)) (hq : Sz 30 30 q) (hm : Sz 30 30 m) (hs : Std w) :
    Calls Tryz.prog 61 #[.int .i64 i, .string x, .pointer (some ⟨bx, 0, none⟩)] w fun e w' => e = .returned (.bool (decide (m < q))) ∧ Below w.heap.size w w' := by
  have HC := hide (pbeyond1_any w x q m B hx hB hq hm hs)
  obtain ⟨R, hR⟩ : ∃ R, decide (m < q) = R := ⟨_, rfl⟩
  rw [hR] at HC ⊢
  clear hx hB hq hm hs hR
  go_enter Tryz.func61, Tryz.ntmps61
  go_wp2_with fail
  refine HC.out.mono ?_
  rintro e w1 ⟨rfl, hb1⟩
  have HB1 := hide hb1
  clear hb1
  go_wp2_with fail
  go_ret
  exact ⟨rfl, HB1.out⟩

set_option maxRecDepth 100000 in
set_option maxHeartbeats 4000000 in
theorem pout_bad (w : World) (v : Value) (L : List S2) (c0 : Bool) (vp : Value) (P : List S2) (n : Int) (hv : Pts w v L) (hvp : Pts w vp P) (hL : L.length ≤ 1000000000000) (_hP : P.length ≤ 1000000000000) (hs : Std w) (k : Int) (hk : k ≠ 0) (he : chkP L c0 = k) :
    Calls Tryz.prog 24 #[v, .bool c0, vp, .int .i64 n] w fun e w' => e = .returned (.tuple #[.slice none 0 0, .int .i64 k]) ∧ Below w.heap.size w w' := by
  have HV := hide hv
  have HVP := hide hvp
  have HS := hide hs
  obtain ⟨A, c, rfl, _⟩ := id hv
  obtain ⟨A2, c2, rfl, _⟩ := id hvp
  clear hv hvp hs
  have HE := hide he
  have hk0 : ¬ k = 0 := hk
  clear he hk
  go_enter Tryz.func24, Tryz.ntmps24
  go_wp2_with fail
  refine (pcheck_any _ _ L c0 HV.out hL).mono ?_
  rw [HE.out]
  rintro e w1 ⟨rfl, hb1⟩
  have HB1 := hide hb1
  clear hb1
  go_wp2_with fail
  go_ret2
  exact ⟨rfl, HB1.out⟩

set_option maxRecDepth 100000 in
set_option maxHeartbeats 4000000 in
theorem pout_bad2 (w : World) (v : Value) (L : List S2) (c0 : Bool) (vp : Value) (P : List S2) (n : Int) (hv : Pts w v L) (hvp : Pts w vp P) (hL : L.length ≤ 1000000000000) (hP : P.length ≤ 1000000000000) (hs : Std w) (k : Int) (hk : k ≠ 0) (he : chkP L c0 = 0) (hd : chkPtsN P = k) :
    Calls Tryz.prog 24 #[v, .bool c0, vp, .int .i64 n] w fun e w' => e = .returned (.tuple #[.slice none 0 0, .int .i64 k]) ∧ Below w.heap.size w w' := by
  have HV := hide hv
  have HVP := hide hvp
  have HS := hide hs
  obtain ⟨A, c, rfl, _⟩ := id hv
  obtain ⟨A2, c2, rfl, _⟩ := id hvp
  clear hv hvp hs
  have HE := hide he
  have HD := hide hd
  have hk0 : ¬ k = 0 := hk
  clear he hk hd
  go_enter Tryz.func24, Tryz.ntmps24
  go_wp2_with fail
  refine (pcheck_any _ _ L c0 HV.out hL).mono ?_
  rw [HE.out]
  rintro e w1 ⟨rfl, hb1⟩
  have HB1 := hide hb1
  clear hb1
  go_wp2_with fail
  refine (Check_any _ _ P (HVP.out.below HB1.out) hP).mono ?_
  rw [HD.out]
  rintro e w2 ⟨rfl, hb2⟩
  have HB2 := hide (HB1.out.trans (hb2.mono HB1.out.size))
  clear hb2
  go_wp2_with fail
  go_ret2
  exact ⟨rfl, HB2.out⟩

set_option maxRecDepth 100000 in
set_option maxHeartbeats 4000000 in
theorem pout_tol (w : World) (v : Value) (L : List S2) (c0 : Bool) (vp : Value) (P : List S2) (n : Int) (hv : Pts w v L) (hvp : Pts w vp P) (hL : L.length ≤ 1000000000000) (hP : P.length ≤ 1000000000000) (hs : Std w) (he : chkP L c0 = 0) (hd : chkPtsN P = 0) (ht : ¬ Tl n) :
    Calls Tryz.prog 24 #[v, .bool c0, vp, .int .i64 n] w fun e w' => e = .returned (.tuple #[.slice none 0 0, .int .i64 2]) ∧ Below w.heap.size w w' := by
  have HV := hide hv
  have HVP := hide hvp
  have HS := hide hs
  obtain ⟨A, c, rfl, _⟩ := id hv
  obtain ⟨A2, c2, rfl, _⟩ := id hvp
  clear hv hvp hs
  have HE := hide he
  have HD := hide hd
  have HT := hide ((all_one n).trans (if_neg ht))
  clear he hd ht
  go_enter Tryz.func24, Tryz.ntmps24
  go_wp2_with fail
  refine (pcheck_any _ _ L c0 HV.out hL).mono ?_
  rw [HE.out]
  rintro e w1 ⟨rfl, hb1⟩
  have HB1 := hide hb1
  clear hb1
  go_wp2_with fail
  refine (Check_any _ _ P (HVP.out.below HB1.out) hP).mono ?_
  rw [HD.out]
  rintro e w2 ⟨rfl, hb2⟩
  have HB2 := hide (HB1.out.trans (hb2.mono HB1.out.size))
  clear hb2
  go_wp2_with fail
  refine (ptol_any _ _ _ [n] (by simp) (tol_one w2 n)).mono ?_
  rw [HT.out]
  rintro e w3 ⟨rfl, hb3⟩
  have HB3 := hide (HB2.out.trans (((allocs_below w2 [.cells #[.int .i64 n] 3]).trans (hb3.mono (by simp))).mono HB2.out.size))
  clear hb3
  go_wp2_with fail
  go_ret2
  exact ⟨rfl, HB3.out⟩

set_option maxRecDepth 100000 in
set_option maxHeartbeats 4000000 in
theorem pout_ok (w : World) (v : Value) (L : List S2) (c0 : Bool) (vp : Value) (P : List S2) (n : Int) (hv : Pts w v L) (hvp : Pts w vp P) (hL : L.length ≤ 1000000000000) (hP : P.length ≤ 1000000000000) (hs : Std w) (he : chkP L c0 = 0) (hd : chkPtsN P = 0) (ht : Tl n) :
    Calls Tryz.prog 24 #[v, .bool c0, vp, .int .i64 n] w fun e w' => (∃ u, e = .returned (.tuple #[u, .int .i64 0]) ∧ IxL w' u (fl (outF L c0 P n) P.length)) ∧ Below w.heap.size w w' := by
  obtain ⟨g1, g2, g3⟩ := chkP_zero he
  have hp3 : P.length ≤ 64 ∧ RightS P := by
    rcases chkPtsN_cases P with h | h | ⟨_, h2, h3⟩
    · rw [h] at hd; exact absurd hd (by decide)
    · rw [h] at hd; exact absurd hd (by decide)
    · exact ⟨h2, rightS_of_all h3⟩
  have HV := hide hv
  have HVP := hide hvp
  have HS := hide hs
  obtain ⟨A, c, rfl, _⟩ := id hv
  obtain ⟨A2, c2, rfl, _⟩ := id hvp
  clear hv hvp hs
  have HE := hide he
  have HD := hide hd
  have HT := hide ((all_one n).trans (if_pos ht))
  have HTL := hide ht
  have G3 := hide g3
  have HP3 := hide hp3
  clear he hd ht g3 hp3
  go_enter Tryz.func24, Tryz.ntmps24
  go_wp2_with fail
  refine (pcheck_any _ _ L c0 HV.out hL).mono ?_
  rw [HE.out]
  rintro e w1 ⟨rfl, hb1⟩
  have HB1 := hide hb1
  clear hb1
  go_wp2_with fail
  refine (Check_any _ _ P (HVP.out.below HB1.out) hP).mono ?_
  rw [HD.out]
  rintro e w2 ⟨rfl, hb2⟩
  have HB2 := hide (HB1.out.trans (hb2.mono HB1.out.size))
  clear hb2
  go_wp2_with fail
  refine (ptol_any _ _ _ [n] (by simp) (tol_one w2 n)).mono ?_
  rw [HT.out]
  rintro e w3 ⟨rfl, hb3⟩
  have HB3 := hide (HB2.out.trans (((allocs_below w2 [.cells #[.int .i64 n] 3]).trans (hb3.mono (by simp))).mono HB2.out.size))
  clear hb3
  go_wp2_with fail
  refine (pbeyond_any _ n 2 HTL.out (by decide) (HS.out.below HB3.out (Nat.le_refl _))).mono ?_
  rintro e w4 ⟨⟨B, rfl, hB1, hB2⟩, hb4⟩
  have HB4 := hide (HB3.out.trans (hb4.mono HB3.out.size))
  have HBX := hide hB2
  clear hb4 hB1 hB2
  go_upto_region 11 with (fail)
  have hbx : Boxed (w4.alloc (.cells #[.func (.func 97) #[] #[.pointer (some ⟨B, 0, none⟩)]] 94)) w4.heap.size 94 (.func (.func 97) #[] #[.pointer (some ⟨B, 0, none⟩)]) := Boxed.new _ _ _
  have hB5 : Boxed (w4.alloc (.cells #[.func (.func 97) #[] #[.pointer (some ⟨B, 0, none⟩)]] 94)) B 35 (.string ⟨(RT (mostQ n 2)).toArray⟩) := HBX.out.alloc _
  have hb5 : Below w.heap.size w (w4.alloc (.cells #[.func (.func 97) #[] #[.pointer (some ⟨B, 0, none⟩)]] 94)) := HB4.out.alloc HB4.out.size _
  obtain ⟨bx, hbb⟩ : ∃ bx, w4.heap.size = bx := ⟨_, rfl⟩
  rw [hbb] at hbx ⊢
  generalize (w4.alloc (.cells #[.func (.func 97) #[] #[.pointer (some ⟨B, 0, none⟩)]] 94)) = w5 at *
  have HX5 := hide hbx
  have HM5 := hide hB5
  have HB5 := hide hb5
  have HFL := hide (failing_any w5 (.slice A L.length c) L c0 (.slice A2 P.length c2) P 61 #[.pointer (some ⟨bx, 0, none⟩)] w5.heap.size w5.heap.size (outF L c0 P n) (fun _ W => Below w5.heap.size w5 W)
    (enters_of Tryz.func61 (by kernel_rfl) rfl) (Nat.le_refl _) (Nat.le_refl _) (fun W hW => HS.out.below (HB5.out.trans (hW.mono HB5.out.size)) (Nat.le_refl _)) (PtB.of (HV.out.below HB5.out)) (PtB.of (HVP.out.below HB5.out)) HE.out HP3.out.1 HP3.out.2
    (fun i W W' h h2 => h.trans h2)
    (fun j W hj hJ hb hz => (pout1_any W j _ (dN L c0 (gP P j)) (mostQ n 2) bx B rfl ((bcell hJ _ _ (block_lt_of_cell HX5.out.cell)).trans HX5.out.cell) ((bcell hJ _ _ (block_lt_of_cell HM5.out.cell)).trans HM5.out.cell) (dN_sz G3.out (HP3.out.2 j)) (mostQ_sz HTL.out (by decide)) (HS.out.below (HB5.out.trans (hb.mono HB5.out.size)) (Nat.le_refl _))).mono (by
      rintro e W' ⟨rfl, hbW⟩
      exact ⟨by rw [mostQ_two]; rfl, hJ.trans (hbW.mono hb.size), KX.of_below hbW hz⟩))
    (Below.refl _ _))
  clear hbx hB5 hb5 hbb
  go_wp2_with fail
  refine HFL.out.mono ?_
  rintro e w6 ⟨⟨u, rfl, hin⟩, _, hb6⟩
  obtain ⟨A3, c3, rfl⟩ := hin.shape
  have HB6 := hide (HB5.out.trans (hb6.mono HB5.out.size))
  have HIN := hide hin
  clear hin hb6 HFL
  go_wp2_with fail
  go_ret2
  exact ⟨⟨_, rfl, HIN.out⟩, HB6.out⟩

theorem pout_any (w : World) (v : Value) (L : List S2) (c0 : Bool) (vp : Value) (P : List S2) (n : Int) (hv : Pts w v L) (hvp : Pts w vp P) (hL : L.length ≤ 1000000000000) (hP : P.length ≤ 1000000000000) (hs : Std w) :
    Calls Tryz.prog 24 #[v, .bool c0, vp, .int .i64 n] w fun e w' => (∃ u, e = .returned (.tuple #[u, .int .i64 (outE L c0 P n)]) ∧ IxL w' u (outL L c0 P n)) ∧ Below w.heap.size w w' := by
  have nl : ∀ k, k ≠ 0 → outE L c0 P n = k → outL L c0 P n = [] := fun k hk h => by unfold outL; rw [if_neg (by rw [h]; exact hk)]
  by_cases h : chkP L c0 = 0
  · by_cases hd : chkPtsN P = 0
    · by_cases ht : Tl n
      · have e0 : outE L c0 P n = 0 := by unfold outE; rw [if_pos h, if_pos hd, if_pos ht]
        have e1 : outL L c0 P n = fl (outF L c0 P n) P.length := by unfold outL; rw [if_pos e0]
        rw [e0, e1]
        exact pout_ok w v L c0 vp P n hv hvp hL hP hs h hd ht
      · have e0 : outE L c0 P n = 2 := by unfold outE; rw [if_pos h, if_pos hd, if_neg ht]
        rw [e0, nl 2 (by decide) e0]
        exact (pout_tol w v L c0 vp P n hv hvp hL hP hs h hd ht).mono (by rintro e W' ⟨rfl, hb⟩; exact ⟨⟨_, rfl, IxL.nil _⟩, hb⟩)
    · have e0 : outE L c0 P n = chkPtsN P := by unfold outE; rw [if_pos h, if_neg hd]
      rw [nl _ hd e0, e0]
      exact (pout_bad2 w v L c0 vp P n hv hvp hL hP hs _ hd h rfl).mono (by rintro e W' ⟨rfl, hb⟩; exact ⟨⟨_, rfl, IxL.nil _⟩, hb⟩)
  · have e0 : outE L c0 P n = chkP L c0 := by unfold outE; rw [if_neg h]
    rw [nl _ h e0, e0]
    exact (pout_bad w v L c0 vp P n hv hvp hL hP hs _ h rfl).mono (by rintro e W' ⟨rfl, hb⟩; exact ⟨⟨_, rfl, IxL.nil _⟩, hb⟩)
end Go.Proofs.YtendaaghmeoddaaGreatDoor
