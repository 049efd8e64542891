/- ratio.Sub. -/
import Derived.Test.YtaccdkbofhlbkaaGreatDoorMade
namespace Go.Proofs.YtaccdkbofhlbkaaGreatDoor
open Go.RowKit MLab

set_option maxRecDepth 100000 in
set_option maxHeartbeats 2000000 in
theorem sub1_any (W : World) (s : Nat) (p q : Rat) (hp : Fit p) (hq : Fit q) (h1 : (p.num * q.den).natAbs < Big) (h2 : (q.num * p.den).natAbs < Big) (hn : (p.num * q.den - q.num * p.den).natAbs < Big) (hd : ((p.den : Int) * q.den).natAbs < Big) (hS : Sums W s 0) (hst : ∀ V, W.grownBy V (some s) → Std V) :
    Calls Tryz.prog 99 #[.pointer (some ⟨s, 0, none⟩), .string ⟨(T p.num).toArray⟩, .string ⟨(T (p.den : Int)).toArray⟩, .string ⟨(T q.num).toArray⟩, .string ⟨(T (q.den : Int)).toArray⟩] W fun e W' => e = .returned (.tuple #[.string ⟨(T (p.num * q.den - q.num * p.den)).toArray⟩, .string ⟨(T ((p.den : Int) * q.den)).toArray⟩]) ∧ W.grownBy W' (some s) ∧ Sums W' s 0 := by
  have HP := hide hp
  have HQ := hide hq
  have HD := hide hd
  have HS := hide hS
  have HST := hide hst
  have HN := hide hn
  have H1 := hide h1
  have H2 := hide h2
  clear hp hq hd hS hst hn h1 h2
  go_enter Tryz.func99, Tryz.ntmps99
  go_wp2_with fail
  refine (mul_two _ s (p.num) ((q.den : Int)) _ HP.out.1 HQ.out.2 H1.out HS.out HST.out).mono ?_
  rintro e w1 ⟨rfl, hg, hs⟩
  have G1 := hide hg
  have S1 := hide hs
  clear hg hs
  go_wp2_with fail
  refine (mul_two _ s (q.num) ((p.den : Int)) _ HQ.out.1 HP.out.2 H2.out S1.out (fun V hV => HST.out V (only_trans G1.out hV))).mono ?_
  rintro e w2 ⟨rfl, hg, hs⟩
  have G2 := hide (only_trans G1.out hg)
  have S2 := hide hs
  clear hg hs
  go_wp2_with fail
  refine (ssub_any _ s _ _ (p.num * q.den) (q.num * p.den) ⟨rfl, rfl, H1.out, H2.out⟩ HN.out S2.out (HST.out _ G2.out)).mono ?_
  rintro e w3 ⟨rfl, hg, hs⟩
  have G3 := hide (only_trans G2.out hg)
  have S3 := hide hs
  clear hg hs
  go_wp2_with fail
  refine (mul_two _ s ((p.den : Int)) ((q.den : Int)) _ HP.out.2 HQ.out.2 HD.out S3.out (fun V hV => HST.out V (only_trans G3.out hV))).mono ?_
  rintro e w4 ⟨rfl, hg, hs⟩
  have G4 := hide (only_trans G3.out hg)
  have S4 := hide hs
  clear hg hs
  go_wp2_with fail
  go_ret2
  exact ⟨rfl, G4.out, S4.out⟩

set_option maxRecDepth 100000 in
theorem rsub_any (w : World) (a b : ByteArray) (p q : Rat) (ha : a.data.toList = RT p) (hb : b.data.toList = RT q) (hp : Fit p) (hq : Fit q) (h1 : (p.num * q.den).natAbs < Big) (h2 : (q.num * p.den).natAbs < Big) (hn : (p.num * q.den - q.num * p.den).natAbs < Big) (hd : ((p.den : Int) * q.den).natAbs < Big) (hs : Std w) :
    Calls Tryz.prog 51 #[.string a, .string b] w fun e w' => RetRat (p - q) e ∧ Below w.heap.size w w' := by
  have H := hide (made_any w a b p q ha hb hp hq 99 (p.num * q.den - q.num * p.den) ((p.den : Int) * q.den) hn hd (dens_ne p q) hs (enters_of Tryz.func99 (by kernel_rfl) rfl) (fun W s hS hst => sub1_any W s p q hp hq h1 h2 hn hd hS hst))
  rw [sub_divInt] at H
  clear ha hb hp hq hd hs hn h1 h2
  go_enter Tryz.func51, Tryz.ntmps51
  go_wp2_with fail
  refine H.out.mono ?_
  rintro e w1 ⟨hr, hb1⟩
  rw [RetRat] at hr
  subst hr
  go_wp2_with fail
  go_ret2
  exact ⟨rfl, hb1⟩

end Go.Proofs.YtaccdkbofhlbkaaGreatDoor
