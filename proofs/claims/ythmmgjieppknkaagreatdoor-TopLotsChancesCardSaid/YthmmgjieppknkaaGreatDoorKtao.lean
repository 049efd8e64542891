/- Contracts and plain laws that the statements of this seat share (part Ktao). -/
import Derived.Test.YthmmgjieppknkaaGreatDoorKtaa
import Derived.Test.YthmmgjieppknkaaGreatDoorKtac
import Derived.Test.YthmmgjieppknkaaGreatDoorKtaf
import Derived.Test.YthmmgjieppknkaaGreatDoorKtal
import Derived.Test.YthmmgjieppknkaaGreatDoorKtam
import Derived.RangeFuncSeq
namespace Go.Proofs.YthmmgjieppknkaaGreatDoor
open Go.RowKit MLab
set_option maxRecDepth 100000 in
set_option maxHeartbeats 1000000 in
theorem do_add (w : World) (b : Nat) (s t : ByteArray) (p : List UInt8 × Int) (hb : Sums w b 0) (hop : Calls Tryz.prog 124 #[.string s, .string t] w fun e w' => RetLim p e ∧ Below w.heap.size w w') :
    Calls Tryz.prog 141 #[.pointer (some ⟨b, 0, none⟩), .func (.func 124) #[] #[], .string s, .string t] w fun e w' => e = .returned (.string ⟨(doRes p).toArray⟩) ∧ w.grownBy w' (some b) ∧ Sums w' b p.2 := by
  have c0 := hb.err
  have hlt := Blk.lt hb
  have HB := hide hb
  have HOP := hide hop
  clear hb hop
  go_enter Tryz.func141, Tryz.ntmps141
  go_wp2_with fail
  refine HOP.out.mono ?_
  rintro e w1 ⟨hr, hb1⟩
  rw [RetLim] at hr
  subst hr
  have h1 : Sums w1 b 0 := Blk.below HB.out hb1 hlt
  have c1 := Sums.err h1
  have f1 := Blk.frozen h1 0
  have H1 := hide h1
  have K1 := hide hb1
  clear h1 hb1
  by_cases he : p.2 = 0
  · have e1 : (p.2 != 0) = false := by rw [he]; rfl
    have HR := hide (show doRes p = p.1 by rw [doRes, if_pos he])
    clear he
    go_wp2_with fail
    go_ret
    exact ⟨by rw [HR.out]; rfl, only_setCell (only_of_below K1.out _) (.inl rfl) _, H1.out.set _⟩
  · have e1 : (p.2 != 0) = true := by rw [bne_iff_ne]; exact he
    have HR := hide (show doRes p = [48] by rw [doRes, if_neg he])
    clear he
    go_wp2_with fail
    go_ret
    exact ⟨by rw [HR.out]; rfl, only_setCell (only_of_below K1.out _) (.inl rfl) _, H1.out.set _⟩
set_option maxRecDepth 100000 in
set_option maxHeartbeats 1000000 in
theorem sadd_any (w : World) (b : Nat) (s t : ByteArray) (x y : Int) (h : Two s t x y) (hr : (x + y).natAbs < Big) (hb : Sums w b 0) (hs : Std w) :
    Calls Tryz.prog 144 #[.pointer (some ⟨b, 0, none⟩), .string s, .string t] w fun e w' => e = .returned (.string ⟨(T (x + y)).toArray⟩) ∧ w.grownBy w' (some b) ∧ Sums w' b 0 := by
  have h1 := do_add w b s t _ hb (add_any w s t x y h hs)
  rw [doRes_ok hr, lim_ok hr] at h1
  have H1 := hide h1
  clear h1 hb h hs hr
  go_enter Tryz.func144, Tryz.ntmps144
  go_wp2_with fail
  refine H1.out.mono ?_
  rintro e w1 ⟨rfl, hg, hS⟩
  have K1 := hide hg
  have K2 := hide hS
  clear hg hS
  go_wp2_with fail
  go_ret
  exact ⟨rfl, K1.out, K2.out⟩
theorem only_al (w : World) (o : Obj) (b : Nat) : w.grownBy (w.alloc o) (some b) := World.grownBy_alloc w o _
theorem mul_two (W : World) (s : Nat) (x y : Int) (t : TypeId) (hx : x.natAbs < Big) (hy : y.natAbs < Big) (hxy : (x * y).natAbs < Big) (hS : Sums W s 0) (hst : ∀ V, W.grownBy V (some s) → Std V) :
    Calls Tryz.prog 107 #[.pointer (some ⟨s, 0, none⟩), .slice (some ⟨W.heap.size, 0, none⟩) 2 2] (W.alloc (.cells #[.string ⟨(T x).toArray⟩, .string ⟨(T y).toArray⟩] t)) fun e w' => e = .returned (.string ⟨(T (x * y)).toArray⟩) ∧ W.grownBy w' (some s) ∧ Sums w' s 0 := by
  have hlt := Blk.lt hS
  have hg := Blk.new W t #[.string ⟨(T x).toArray⟩, .string ⟨(T y).toArray⟩]
  have hS5 : Sums (W.alloc (.cells #[.string ⟨(T x).toArray⟩, .string ⟨(T y).toArray⟩] t)) s 0 := Blk.alloc hS _
  have hga := only_al W (.cells #[.string ⟨(T x).toArray⟩, .string ⟨(T y).toArray⟩] t) s
  refine (rmul_any _ s W.heap.size [x, y] _ 0 hg (by omega) (by
    intro z hz
    rcases List.mem_cons.1 hz with rfl | hz
    · exact hx
    · rcases List.mem_cons.1 hz with rfl | hz
      · exact hy
      · cases hz) (by simp) hS5 (fun V hV => hst V (only_trans hga hV)) 2).mono ?_
  rintro e w' ⟨rfl, hg', hS'⟩
  rw [mulS_two hx, if_pos hxy] at hS'
  rw [mulS_two hx, if_pos hxy]
  exact ⟨rfl, only_trans hga hg', hS'⟩
set_option maxRecDepth 100000 in
set_option maxHeartbeats 2000000 in
theorem mul1_any (W : World) (s : Nat) (p q : Rat) (hp : Fit p) (hq : Fit q) (hn : (p.num * q.num).natAbs < Big) (hd : ((p.den : Int) * q.den).natAbs < Big) (hS : Sums W s 0) (hst : ∀ V, W.grownBy V (some s) → Std V) :
    Calls Tryz.prog 142 #[.pointer (some ⟨s, 0, none⟩), .string ⟨(T p.num).toArray⟩, .string ⟨(T (p.den : Int)).toArray⟩, .string ⟨(T q.num).toArray⟩, .string ⟨(T (q.den : Int)).toArray⟩] W fun e W' => e = .returned (.tuple #[.string ⟨(T (p.num * q.num)).toArray⟩, .string ⟨(T ((p.den : Int) * q.den)).toArray⟩]) ∧ W.grownBy W' (some s) ∧ Sums W' s 0 := by
  have HP := hide hp
  have HQ := hide hq
  have HD := hide hd
  have HS := hide hS
  have HST := hide hst
  have HN := hide hn
  clear hp hq hd hS hst hn
  go_enter Tryz.func142, Tryz.ntmps142
  go_wp2_with fail
  refine (mul_two _ s (p.num) (q.num) _ HP.out.1 HQ.out.1 HN.out HS.out HST.out).mono ?_
  rintro e w1 ⟨rfl, hg, hs⟩
  have G1 := hide hg
  have S1 := hide hs
  clear hg hs
  go_wp2_with fail
  refine (mul_two _ s ((p.den : Int)) ((q.den : Int)) _ HP.out.2 HQ.out.2 HD.out S1.out (fun V hV => HST.out V (only_trans G1.out hV))).mono ?_
  rintro e w2 ⟨rfl, hg, hs⟩
  have G2 := hide (only_trans G1.out hg)
  have S2 := hide hs
  clear hg hs
  go_wp2_with fail
  go_ret2
  exact ⟨rfl, G2.out, S2.out⟩
set_option maxRecDepth 100000 in
set_option maxHeartbeats 2000000 in
theorem add1_any (W : World) (s : Nat) (p q : Rat) (hp : Fit p) (hq : Fit q) (h1 : (p.num * q.den).natAbs < Big) (h2 : (q.num * p.den).natAbs < Big) (hn : (p.num * q.den + q.num * p.den).natAbs < Big) (hd : ((p.den : Int) * q.den).natAbs < Big) (hS : Sums W s 0) (hst : ∀ V, W.grownBy V (some s) → Std V) :
    Calls Tryz.prog 143 #[.pointer (some ⟨s, 0, none⟩), .string ⟨(T p.num).toArray⟩, .string ⟨(T (p.den : Int)).toArray⟩, .string ⟨(T q.num).toArray⟩, .string ⟨(T (q.den : Int)).toArray⟩] W fun e W' => e = .returned (.tuple #[.string ⟨(T (p.num * q.den + q.num * p.den)).toArray⟩, .string ⟨(T ((p.den : Int) * q.den)).toArray⟩]) ∧ W.grownBy W' (some s) ∧ Sums W' s 0 := by
  have HP := hide hp
  have HQ := hide hq
  have HD := hide hd
  have HS := hide hS
  have HST := hide hst
  have HN := hide hn
  have H1 := hide h1
  have H2 := hide h2
  clear hp hq hd hS hst hn h1 h2
  go_enter Tryz.func143, Tryz.ntmps143
  go_wp2_with fail
  refine (mul_two _ s (p.num) ((q.den : Int)) _ HP.out.1 HQ.out.2 H1.out HS.out HST.out).mono ?_
  rintro e w1 ⟨rfl, hg, hs⟩
  have G1 := hide hg
  have S1 := hide hs
  clear hg hs
  go_wp2_with fail
  refine (mul_two _ s (q.num) ((p.den : Int)) _ HQ.out.1 HP.out.2 H2.out S1.out (fun V hV => HST.out V (only_trans G1.out hV))).mono ?_
  rintro e w2 ⟨rfl, hg, hs⟩
  have G2 := hide (only_trans G1.out hg)
  have S2 := hide hs
  clear hg hs
  go_wp2_with fail
  refine (sadd_any _ s _ _ (p.num * q.den) (q.num * p.den) ⟨rfl, rfl, H1.out, H2.out⟩ HN.out S2.out (HST.out _ G2.out)).mono ?_
  rintro e w3 ⟨rfl, hg, hs⟩
  have G3 := hide (only_trans G2.out hg)
  have S3 := hide hs
  clear hg hs
  go_wp2_with fail
  refine (mul_two _ s ((p.den : Int)) ((q.den : Int)) _ HP.out.2 HQ.out.2 HD.out S3.out (fun V hV => HST.out V (only_trans G3.out hV))).mono ?_
  rintro e w4 ⟨rfl, hg, hs⟩
  have G4 := hide (only_trans G3.out hg)
  have S4 := hide hs
  clear hg hs
  go_wp2_with fail
  go_ret2
  exact ⟨rfl, G4.out, S4.out⟩
set_option maxRecDepth 100000 in
set_option maxHeartbeats 4000000 in
theorem made_any (w : World) (a b : ByteArray) (p q : Rat) (ha : a.data.toList = RT p) (hb : b.data.toList = RT q) (hp : Fit p) (hq : Fit q) (f : FuncId) (X Y : Int) (hX : X.natAbs < Big) (hYb : Y.natAbs < Big) (hY : Y ≠ 0) (hs : Std w) (hen : ∀ args w, (callFunc f args).run Tryz.prog w = .ok (.enter f args) w)
    (hof : ∀ (W : World) (s : Nat), Sums W s 0 → (∀ V, W.grownBy V (some s) → Std V) → Calls Tryz.prog f #[.pointer (some ⟨s, 0, none⟩), .string ⟨(T p.num).toArray⟩, .string ⟨(T (p.den : Int)).toArray⟩, .string ⟨(T q.num).toArray⟩, .string ⟨(T (q.den : Int)).toArray⟩] W fun e W' => e = .returned (.tuple #[.string ⟨(T X).toArray⟩, .string ⟨(T Y).toArray⟩]) ∧ W.grownBy W' (some s) ∧ Sums W' s 0) :
    Calls Tryz.prog 104 #[.string a, .string b, .func (.func f) #[] #[]] w fun e w' => RetRat (Rat.divInt X Y) e ∧ Below w.heap.size w w' := by
  have HA := hide ha
  have HB := hide hb
  have HS := hide hs
  have HX := hide hX
  have HYB := hide hYb
  have HY := hide hY
  have HOF := hide hof
  have hb0 : ((⟨(T Y).toArray⟩ : ByteArray).toList == [48]) = false := by
    rw [Lib.toList_data, beq_eq_false_iff_ne]; intro e; exact hY (T_inj ((by simpa using e : T Y = [48]).trans T_zero.symm))
  have az : a.size < 4000000000 := by rw [Lib.size_eq, ha]; have := RT_len hp; omega
  have bz : b.size < 4000000000 := by rw [Lib.size_eq, hb]; have := RT_len hq; omega
  have C0 := hide (fun t => checks_two w a b p q ha hb hp hq t hs)
  have E1 := hide (show (⟨(numL (RT p)).toArray⟩ : ByteArray) = ⟨(T p.num).toArray⟩ by rw [RT_num])
  have E2 := hide (show (⟨(denL (RT p)).toArray⟩ : ByteArray) = ⟨(T (p.den : Int)).toArray⟩ by rw [RT_den])
  have E3 := hide (show (⟨(numL (RT q)).toArray⟩ : ByteArray) = ⟨(T q.num).toArray⟩ by rw [RT_num])
  have E4 := hide (show (⟨(denL (RT q)).toArray⟩ : ByteArray) = ⟨(T (q.den : Int)).toArray⟩ by rw [RT_den])
  clear ha hb hp hq hs hX hYb hY hof
  go_enter Tryz.func104, Tryz.ntmps104
  go_wp2_with fail
  refine (C0.out _).mono ?_
  rintro e w1 ⟨rfl, hb1⟩
  have B1 := hide hb1
  clear hb1 C0
  go_wp2_with fail
  refine (rcut_any _ a _ HA.out az (std_next HS.out B1.out)).mono ?_
  rintro e w2 ⟨rfl, hb2⟩
  rw [E1.out, E2.out]
  have B2 := hide (B1.out.trans (hb2.mono B1.out.size))
  clear hb2 B1
  go_wp2_with fail
  refine (rcut_any _ b _ HB.out bz (std_next HS.out B2.out)).mono ?_
  rintro e w3 ⟨rfl, hb3⟩
  rw [E3.out, E4.out]
  have B3 := hide (B2.out.trans (hb3.mono B2.out.size))
  clear hb3 B2
  go_wp2_with fail
  have hS0 : Sums (w3.alloc (.cells #[.int .i64 0] 200)) w3.heap.size 0 := Blk.new w3 _ _
  have hb4 : Below w.heap.size w (w3.alloc (.cells #[.int .i64 0] 200)) := B3.out.alloc B3.out.size _
  have hz4 : w3.heap.size < (w3.alloc (.cells #[.int .i64 0] 200)).heap.size := by simp
  have hw3 := B3.out.size
  generalize (w3.alloc (.cells #[.int .i64 0] 200)) = w4 at *
  have hst : ∀ V, w4.grownBy V (some w3.heap.size) → Below w.heap.size w V := fun V hg => below_only hb4 hg (by omega) hw3
  have HST := hide hst
  have S4 := hide hS0
  clear hS0 hb4 hst
  refine (HOF.out w4 w3.heap.size S4.out (fun V hg => std_next HS.out (HST.out V hg))).mono ?_
  rintro e w5 ⟨rfl, hg5, hS5⟩
  generalize htY : (⟨(T Y).toArray⟩ : ByteArray) = tY at *
  have HTY := hide htY
  clear htY
  have c5 := Sums.err hS5
  have G5 := hide hg5
  have S5 := hide hS5
  clear hg5 hS5
  go_wp2_with fail
  refine (lowest_any _ w3.heap.size ⟨(T X).toArray⟩ tY X Y ⟨rfl, by rw [← HTY.out], HX.out, HYB.out⟩ HY.out S5.out (fun V hg => std_next HS.out (HST.out V (only_trans G5.out hg)))).mono ?_
  rintro e w6 ⟨rfl, hg6, hS6⟩
  have c6 := Sums.err hS6
  have B6 := hide (HST.out _ (only_trans G5.out hg6))
  clear hg6 hS6 c5
  go_wp2_with fail
  go_quiet (fail)
  go_wp2_with fail
  go_ret2
  exact ⟨rfl, below_drewN B6.out _⟩
set_option maxRecDepth 100000 in
theorem radd_any (w : World) (a b : ByteArray) (p q : Rat) (ha : a.data.toList = RT p) (hb : b.data.toList = RT q) (hp : Fit p) (hq : Fit q) (h1 : (p.num * q.den).natAbs < Big) (h2 : (q.num * p.den).natAbs < Big) (hn : (p.num * q.den + q.num * p.den).natAbs < Big) (hd : ((p.den : Int) * q.den).natAbs < Big) (hs : Std w) :
    Calls Tryz.prog 109 #[.string a, .string b] w fun e w' => RetRat (p + q) e ∧ Below w.heap.size w w' := by
  have H := hide (made_any w a b p q ha hb hp hq 143 (p.num * q.den + q.num * p.den) ((p.den : Int) * q.den) hn hd (dens_ne p q) hs (enters_of Tryz.func143 (by kernel_rfl) rfl) (fun W s hS hst => add1_any W s p q hp hq h1 h2 hn hd hS hst))
  rw [add_divInt] at H
  clear ha hb hp hq hd hs hn h1 h2
  go_enter Tryz.func109, Tryz.ntmps109
  go_wp2_with fail
  refine H.out.mono ?_
  rintro e w1 ⟨hr, hb1⟩
  rw [RetRat] at hr
  subst hr
  go_wp2_with fail
  go_ret2
  exact ⟨rfl, hb1⟩
set_option maxRecDepth 100000 in
theorem rmulq_any (w : World) (a b : ByteArray) (p q : Rat) (ha : a.data.toList = RT p) (hb : b.data.toList = RT q) (hp : Fit p) (hq : Fit q) (hn : (p.num * q.num).natAbs < Big) (hd : ((p.den : Int) * q.den).natAbs < Big) (hs : Std w) :
    Calls Tryz.prog 108 #[.string a, .string b] w fun e w' => RetRat (p * q) e ∧ Below w.heap.size w w' := by
  have H := hide (made_any w a b p q ha hb hp hq 142 (p.num * q.num) ((p.den : Int) * q.den) hn hd (dens_ne p q) hs (enters_of Tryz.func142 (by kernel_rfl) rfl) (fun W s hS hst => mul1_any W s p q hp hq hn hd hS hst))
  rw [mul_divInt] at H
  clear ha hb hp hq hd hs hn 
  go_enter Tryz.func108, Tryz.ntmps108
  go_wp2_with fail
  refine H.out.mono ?_
  rintro e w1 ⟨hr, hb1⟩
  rw [RetRat] at hr
  subst hr
  go_wp2_with fail
  go_ret2
  exact ⟨rfl, hb1⟩
end Go.Proofs.YthmmgjieppknkaaGreatDoor

namespace Go.Proofs.YthmmgjieppknkaaGreatDoor
open Go.RowKit MLab
set_option maxRecDepth 100000 in
set_option maxHeartbeats 2000000 in
theorem sub1_any (W : World) (s : Nat) (p q : Rat) (hp : Fit p) (hq : Fit q) (h1 : (p.num * q.den).natAbs < Big) (h2 : (q.num * p.den).natAbs < Big) (hn : (p.num * q.den - q.num * p.den).natAbs < Big) (hd : ((p.den : Int) * q.den).natAbs < Big) (hS : Sums W s 0) (hst : ∀ V, W.grownBy V (some s) → Std V) :
    Calls Tryz.prog 105 #[.pointer (some ⟨s, 0, none⟩), .string ⟨(T p.num).toArray⟩, .string ⟨(T (p.den : Int)).toArray⟩, .string ⟨(T q.num).toArray⟩, .string ⟨(T (q.den : Int)).toArray⟩] W fun e W' => e = .returned (.tuple #[.string ⟨(T (p.num * q.den - q.num * p.den)).toArray⟩, .string ⟨(T ((p.den : Int) * q.den)).toArray⟩]) ∧ W.grownBy W' (some s) ∧ Sums W' s 0 := by
  have HP := hide hp
  have HQ := hide hq
  have HD := hide hd
  have HS := hide hS
  have HST := hide hst
  have HN := hide hn
  have H1 := hide h1
  have H2 := hide h2
  clear hp hq hd hS hst hn h1 h2
  go_enter Tryz.func105, Tryz.ntmps105
  go_wp2_with fail
  refine (mul_two _ s (p.num) ((q.den : Int)) _ HP.out.1 HQ.out.2 H1.out HS.out HST.out).mono ?_
  rintro e w1 ⟨rfl, hg, hs⟩
  have G1 := hide hg
  have S1 := hide hs
  clear hg hs
  go_wp2_with fail
  refine (mul_two _ s (q.num) ((p.den : Int)) _ HQ.out.1 HP.out.2 H2.out S1.out (fun V hV => HST.out V (only_trans G1.out hV))).mono ?_
  rintro e w2 ⟨rfl, hg, hs⟩
  have G2 := hide (only_trans G1.out hg)
  have S2 := hide hs
  clear hg hs
  go_wp2_with fail
  refine (ssub_any _ s _ _ (p.num * q.den) (q.num * p.den) ⟨rfl, rfl, H1.out, H2.out⟩ HN.out S2.out (HST.out _ G2.out)).mono ?_
  rintro e w3 ⟨rfl, hg, hs⟩
  have G3 := hide (only_trans G2.out hg)
  have S3 := hide hs
  clear hg hs
  go_wp2_with fail
  refine (mul_two _ s ((p.den : Int)) ((q.den : Int)) _ HP.out.2 HQ.out.2 HD.out S3.out (fun V hV => HST.out V (only_trans G3.out hV))).mono ?_
  rintro e w4 ⟨rfl, hg, hs⟩
  have G4 := hide (only_trans G3.out hg)
  have S4 := hide hs
  clear hg hs
  go_wp2_with fail
  go_ret2
  exact ⟨rfl, G4.out, S4.out⟩
set_option maxRecDepth 100000 in
theorem rsub_any (w : World) (a b : ByteArray) (p q : Rat) (ha : a.data.toList = RT p) (hb : b.data.toList = RT q) (hp : Fit p) (hq : Fit q) (h1 : (p.num * q.den).natAbs < Big) (h2 : (q.num * p.den).natAbs < Big) (hn : (p.num * q.den - q.num * p.den).natAbs < Big) (hd : ((p.den : Int) * q.den).natAbs < Big) (hs : Std w) :
    Calls Tryz.prog 65 #[.string a, .string b] w fun e w' => RetRat (p - q) e ∧ Below w.heap.size w w' := by
  have H := hide (made_any w a b p q ha hb hp hq 105 (p.num * q.den - q.num * p.den) ((p.den : Int) * q.den) hn hd (dens_ne p q) hs (enters_of Tryz.func105 (by kernel_rfl) rfl) (fun W s hS hst => sub1_any W s p q hp hq h1 h2 hn hd hS hst))
  rw [sub_divInt] at H
  clear ha hb hp hq hd hs hn h1 h2
  go_enter Tryz.func65, Tryz.ntmps65
  go_wp2_with fail
  refine H.out.mono ?_
  rintro e w1 ⟨hr, hb1⟩
  rw [RetRat] at hr
  subst hr
  go_wp2_with fail
  go_ret2
  exact ⟨rfl, hb1⟩
end Go.Proofs.YthmmgjieppknkaaGreatDoor
