/- whole.Neg, ratio.Parts, ratio.Neg. -/
import Derived.Test.YtdkilkliccljeaaGreatDoorRcheck
namespace Go.Proofs.YtdkilkliccljeaaGreatDoor
open Go.RowKit MLab

set_option maxRecDepth 100000 in
set_option maxHeartbeats 1000000 in
theorem wneg_any (w : World) (s : ByteArray) (z : Int) (hs : s.data.toList = T z) (hb : z.natAbs < Big) :
    Calls Tryz.prog 98 #[.string s] w fun e w' => e = .returned (.tuple #[.string ⟨(T (-z)).toArray⟩, .int .i64 0]) ∧ Below w.heap.size w w' := by
  have hsz := T_size hs hb
  have hc := check_any s _ hs (by omega) w
  rw [chk_T, if_pos hb] at hc
  have HC := hide hc
  have HO := hide (fun w => opposite_any w s z hs hb)
  clear hs hb hc hsz
  go_enter Tryz.func98, Tryz.ntmps98
  go_wp2_with fail
  refine HC.out.mono ?_
  rintro e w1 ⟨rfl, hb1⟩
  go_wp2_with fail
  refine (HO.out _).mono ?_
  rintro e w2 ⟨rfl, rfl⟩
  go_wp2_with fail
  go_ret2
  exact ⟨rfl, hb1⟩

set_option maxRecDepth 100000 in
set_option maxHeartbeats 1000000 in
/-- The parts of a right number. -/
theorem rparts_any (w : World) (a : ByteArray) (p : Rat) (ha : a.data.toList = RT p) (hp : Fit p) (hs : Std w) :
    Calls Tryz.prog 97 #[.string a] w fun e w' => e = .returned (.tuple #[.string ⟨(T p.num).toArray⟩, .string ⟨(T (p.den : Int)).toArray⟩, .int .i64 0]) ∧ Below w.heap.size w w' := by
  have az : a.size < 4000000000 := by rw [Lib.size_eq, ha]; have := RT_len hp; omega
  have hc := rcheck_any w a _ ha az hs
  rw [chkR_RT hp] at hc
  have HC := hide hc
  have HS := hide hs
  have hcut := fun W hW => rcut_any W a _ ha az hW
  rw [RT_num, RT_den] at hcut
  have HK := hide hcut
  clear ha hp hs hc hcut az
  go_enter Tryz.func97, Tryz.ntmps97
  go_wp2_with fail
  refine HC.out.mono ?_
  rintro e w1 ⟨rfl, hb1⟩
  have B1 := hide hb1
  clear hb1
  go_wp2_with fail
  refine (HK.out _ (std_next HS.out B1.out)).mono ?_
  rintro e w2 ⟨rfl, hb2⟩
  have B2 := hide (B1.out.trans (hb2.mono B1.out.size))
  clear hb2
  go_wp2_with fail
  exact bodyPost_ret (v := .tuple #[.string ⟨(T p.num).toArray⟩, .string ⟨(T (p.den : Int)).toArray⟩, .int .i64 0]) (by simp [results, Tryz.results97, go_sem]) rfl ⟨rfl, B2.out⟩

theorem neg_num_den (p : Rat) : (-p).num = -p.num ∧ (-p).den = p.den := ⟨Rat.neg_num p, Rat.neg_den p⟩
set_option maxRecDepth 100000 in
set_option maxHeartbeats 1000000 in
theorem rneg_any (w : World) (a : ByteArray) (p : Rat) (ha : a.data.toList = RT p) (hp : Fit p) (hs : Std w) :
    Calls Tryz.prog 60 #[.string a] w fun e w' => e = .returned (.tuple #[.string ⟨(RT (-p)).toArray⟩, .int .i64 0]) ∧ Below w.heap.size w w' := by
  have HP := hide (rparts_any w a p ha hp hs)
  have HN := hide (fun w => wneg_any w ⟨(T p.num).toArray⟩ p.num rfl hp.1)
  have hn : (-p.num).natAbs < Big := by rw [Int.natAbs_neg]; exact hp.1
  have hd : ((p.den : Int)).natAbs < Big := by rw [Int.natAbs_natCast]; exact hp.2
  have s1 := T_size (s := ⟨(T (-p.num)).toArray⟩) rfl hn
  have s2 := T_size (s := ⟨(T (p.den : Int)).toArray⟩) rfl hd
  have HJ := hide (fun w => joined_any w ⟨(T (-p.num)).toArray⟩ ⟨(T (p.den : Int)).toArray⟩ (-p) (by rw [(neg_num_den p).1]) (by rw [(neg_num_den p).2]) (by omega) (by omega))
  clear ha hp hs hn hd s1 s2
  go_enter Tryz.func60, Tryz.ntmps60
  go_wp2_with fail
  refine HP.out.mono ?_
  rintro e w1 ⟨rfl, hb1⟩
  have B1 := hide hb1
  clear hb1
  go_wp2_with fail
  refine (HN.out _).mono ?_
  rintro e w2 ⟨rfl, hb2⟩
  have B2 := hide (B1.out.trans (hb2.mono B1.out.size))
  clear hb2
  go_wp2_with fail
  refine (HJ.out _).mono ?_
  rintro e w3 ⟨rfl, rfl⟩
  go_wp2_with fail
  go_ret2
  exact ⟨rfl, B2.out⟩
end Go.Proofs.YtdkilkliccljeaaGreatDoor
