/- whole.Neg, ratio.Parts, ratio.Neg. -/
import Derived.Test.YtaccdkbofhlbkaaGreatDoorRcheck
namespace Go.Proofs.YtaccdkbofhlbkaaGreatDoor
open Go.RowKit MLab
set_option maxRecDepth 100000 in
set_option maxHeartbeats 1000000 in
/-- The parts of a right number. -/
theorem rparts_any (w : World) (a : ByteArray) (p : Rat) (ha : a.data.toList = RT p) (hp : Fit p) (hs : Std w) :
    Calls Tryz.prog 59 #[.string a] w fun e w' => e = .returned (.tuple #[.string ⟨(T p.num).toArray⟩, .string ⟨(T (p.den : Int)).toArray⟩, .int .i64 0]) ∧ Below w.heap.size w w' := by
  have az : a.size < 4000000000 := by rw [Lib.size_eq, ha]; have := RT_len hp; omega
  have hc := rcheck_any w a _ ha az hs
  rw [chkR_RT hp] at hc
  have HC := hide hc
  have HS := hide hs
  have hcut := fun W hW => rcut_any W a _ ha az hW
  rw [RT_num, RT_den] at hcut
  have HK := hide hcut
  clear ha hp hs hc hcut az
  go_enter Tryz.func59, Tryz.ntmps59
  go_wp2_with fail
  refine HC.out.mono ?_
  rintro e w1 ⟨rfl, hb1⟩
  have B1 := hide hb1
  clear hb1
  go_wp2_with fail
  refine (HK.out _ (std_next HS.out B1.out)).mono ?_
  rintro e w2 ⟨rfl, hb2⟩
  have B2 := hide (B1.out.trans (hb2.mono B1.out.size))
  clear hb2
  go_wp2_with fail
  exact bodyPost_ret (v := .tuple #[.string ⟨(T p.num).toArray⟩, .string ⟨(T (p.den : Int)).toArray⟩, .int .i64 0]) (by simp [results, Tryz.results59, go_sem]) rfl ⟨rfl, B2.out⟩

theorem neg_num_den (p : Rat) : (-p).num = -p.num ∧ (-p).den = p.den := ⟨Rat.neg_num p, Rat.neg_den p⟩
end Go.Proofs.YtaccdkbofhlbkaaGreatDoor
