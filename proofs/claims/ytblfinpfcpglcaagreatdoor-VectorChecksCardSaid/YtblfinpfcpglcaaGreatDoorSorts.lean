/- vector.Order: the library's insertion sort at a few elements; Order. -/
import Derived.Test.YtblfinpfcpglcaaGreatDoorOrder
namespace Go.Proofs.YtblfinpfcpglcaaGreatDoor
open Go.RowKit MLab

theorem info_i : (Tryz.prog.info? 3).map (fun i => (i.zero, i.size, i.bytes)) = some (some (.int .i64 0), 1, 8) := by kernel_rfl
/-- The points that v reads as lie below block B. -/
def PtsB (B : Nat) (w : World) (v : Value) (L : List S2) : Prop := Pts w v L ∧ ∀ b off n c, v = .slice (some ⟨b, off, none⟩) n c → 0 < L.length → b < B
theorem PtsB.below {B : Nat} {w w' : World} {v : Value} {L : List S2} (h : PtsB B w v L) (hb : Below B w w') : PtsB B w' v L := by
  obtain ⟨⟨A, c, hv, hc⟩, h2⟩ := h
  refine ⟨⟨A, c, hv, fun h0 => ?_⟩, h2⟩
  obtain ⟨b, off, hA, hcell⟩ := hc h0
  have hbB : b < B := h2 b off L.length c (by rw [hv, hA]) h0
  exact ⟨b, off, hA, fun i l hi => ⟨(hb.cell (p := ⟨b, off + i * 2, none⟩) hbB).trans (hcell i l hi).1, (hb.cell (p := ⟨b, off + i * 2 + 1, none⟩) hbB).trans (hcell i l hi).2⟩⟩
theorem PtsB.of {w : World} {v : Value} {L : List S2} (h : Pts w v L) : PtsB w.heap.size w v L := by
  refine ⟨h, fun b off n c hv h0 => ?_⟩
  obtain ⟨A, c', hv', hc⟩ := h
  obtain ⟨b', off', hA, hcell⟩ := hc h0
  rw [hv', hA] at hv
  obtain ⟨⟨rfl, rfl⟩, _, _⟩ : (b' = b ∧ off' = off) ∧ L.length = n ∧ c' = c := by simpa using hv
  exact block_lt_of_cell (hcell 0 _ (gP_eq h0)).1

set_option maxRecDepth 100000 in
set_option maxHeartbeats 8000000 in
theorem insort_any (w : World) (v : Value) (L : List S2) (B Bs g : Nat) (hv : PtsB B w v L) (hB : w.cell? ⟨Bs, 0, none⟩ = some v) (hBs : Bs < B) (hg : B ≤ g) (hn : L.length ≤ 64)
    (hrow : w.rowIs g 3 L.length (fun p => .int .i64 (p : Int))) :
    Calls Tryz.prog 159 #[.slice (some ⟨g, 0, none⟩) L.length L.length, .int .i64 0, .int .i64 (L.length : Int), .func (.func 102) #[] #[.pointer (some ⟨Bs, 0, none⟩)]] w fun e w' =>
      (∃ u, e = .returned u) ∧ w'.rowIs g 3 L.length (fun p => .int .i64 (ins L L.length p : Int)) ∧ Below B w w' := by
  have HV := hide hv
  have HB := hide hB
  have HR := hide hrow
  clear hv hB hrow
  go_enter Tryz.func159, Tryz.ntmps159
  go_wp2_with fail
  go_loopg [8] L.length (fun q iv wr => ∃ i : Nat, iv = .int .i64 (i : Int) ∧ 1 ≤ i ∧ (i ≤ L.length ∨ L.length = 0) ∧ q + i = L.length + 1 ∧ wr.rowIs g 3 L.length (fun p => .int .i64 (ins L i p : Int)) ∧ Below B w wr)
  case atStart => exact ⟨1, rfl, Nat.le_refl _, by omega, rfl, HR.out, Below.refl _ _⟩
  case round =>
    obtain ⟨i, rfl, hi1, hi2, hq, hr, hb⟩ := hrel
    have HQ0 := hide hq
    have HR0 := hide hr
    have HB0 := hide hb
    clear hq hr hb
    obtain ⟨g0, hg0⟩ : ∃ g : Nat, g = gk := ⟨_, rfl⟩
    have HG0 := hide hg0
    clear hg0
    by_cases hlt : i < L.length
    · have hii : (i : Int) < (L.length : Int) := by omega
      go_wp2_with fail
      go_loopg [9] i (fun q jv wr => ∃ (j : Nat) (d : Nat → Nat), jv = .int .i64 (j : Int) ∧ q = j ∧ j ≤ i ∧ wr.rowIs g 3 L.length (fun p => .int .i64 (d p : Int)) ∧ bub L j d = ins L (i + 1) ∧ (∀ p, p < L.length → d p < L.length) ∧ Below B w wr)
      case atStart => exact ⟨i, ins L i, rfl, rfl, Nat.le_refl _, HR0.out, rfl, ins_lt L i (by omega), HB0.out⟩
      case round =>
        obtain ⟨j, d, rfl, hq, hj, hr, hbub, hd, hb⟩ := hrel
        have HQ := hide hq
        have HR1 := hide hr
        have HBU := hide hbub
        have HD := hide hd
        have HB1 := hide hb
        clear hq hr hbub hd hb
        by_cases hj0 : j = 0
        · subst hj0
          have hz : ¬ (0 : Int) < ((0 : Nat) : Int) := by omega
          go_upto_region 4 with (fail)
          go_region
          go_wp2_with fail
          go_roundg (g0 - 1)
          case measure => have := HQ0.out; have := HG0.out; omega
          case rel =>
            refine ⟨i + 1, by go_num, by omega, .inl (by omega), by have := HQ0.out; have := HG0.out; omega, ?_, HB1.out.drew⟩
            rw [← HBU.out]; exact HR1.out.drew
        · obtain ⟨k, hk⟩ : ∃ k, j = k + 1 := ⟨j - 1, by omega⟩
          have hjp : (0 : Int) < (j : Int) := by omega
          have hjp2 : 0 < j := by omega
          have hjn : j < L.length := by omega
          have hkn : k < L.length := by omega
          have hjl : (j : Int) < (L.length : Int) := by omega
          have hkl : (k : Int) < (L.length : Int) := by omega
          have hw1 : IntKind.i64.wrap ((j : Int) - 1) = (k : Int) := (IntWalk.i64_in _ ⟨by omega, by omega⟩).trans (by omega)
          have hne1 : ¬ k = j := by omega
          have hne2 : ¬ j = k := by omega
          have c0 := HR1.out.cell hjn
          have c1 := HR1.out.cell hkn
          have hglt := HR1.out.lt
          obtain ⟨O, hO⟩ : ∃ z : Int, ordc (gP L (d j)) (gP L (d k)) = z := ⟨_, rfl⟩
          have hbe : (O < 0) = (before (gP L (d j)) (gP L (d k)) = true) := by rw [← hO]; exact ordc_before _ _
          have HBE := hide hbe
          have HO := hide hO
          have hBr := hide ((bcell HB1.out.drew Bs 0 hBs).trans HB.out)
          have HVr := hide (HV.out.below HB1.out.drew)
          have HK := hide hk
          have SK : ∀ w', Below wr.heap.size wr w' → Below wr.heap.size wr w' ∧ w'.cell? ⟨g, j, none⟩ = some (.int .i64 (d j : Int)) ∧ w'.cell? ⟨g, k, none⟩ = some (.int .i64 (d k : Int)) := fun w' h => ⟨h, (bcell h _ _ (block_lt_of_cell c0)).trans c0, (bcell h _ _ (block_lt_of_cell c1)).trans c1⟩
          clear hbe hO hk hj0
          by_cases hneg : O < 0
          · have HNEG := hide hneg
            go_upto_region 4 with (fail)
            go_region_held3 (fun w' => Below wr.heap.size wr w' ∧ w'.cell? ⟨g, j, none⟩ = some (.int .i64 (d j : Int)) ∧ w'.cell? ⟨g, k, none⟩ = some (.int .i64 (d k : Int))) (first | exact SK _ (Below.refl _ _).drew | exact SK _ (Below.refl _ _) | exact SK _ (bel_next (by assumption) (by assumption) (Nat.le_refl _)))
              (first
                | (go_at_call 102; refine (ordcmp_any _ v L HVr.out.1 Bs hBr.out (d j) (d k) (HD.out _ hjn) (HD.out _ hkn)).mono ?_; rw [HO.out]; rintro e wx ⟨rfl, hbW⟩))
            obtain ⟨hbx, c0x, c1x⟩ : Below wr.heap.size wr wx ∧ wx.cell? ⟨g, j, none⟩ = some (.int .i64 (d j : Int)) ∧ wx.cell? ⟨g, k, none⟩ = some (.int .i64 (d k : Int)) := by assumption
            have hrx := HR1.out.of_block (hbx.block g hglt)
            have f0x := hrx.frozen j
            have f1x := hrx.frozen k
            have HRX := hide hrx
            have HBX := hide (HB1.out.trans (hbx.mono (Nat.le_trans hg (Nat.le_of_lt hglt))))
            clear hrx hbx SK c0 c1
            go_wp2_with fail
            go_region
            go_wp2_with fail
            go_roundg (gk - 1)
            case measure => have := HQ.out; omega
            case rel =>
              refine ⟨k, swp d k, by go_num, by have := HQ.out; have := HK.out; omega, by have := HK.out; omega, ?_, ?_, swp_lt (by have := HK.out; omega) HD.out, ?_⟩
              · have hr2 := (HRX.out.set j (.int .i64 (d k : Int))).set k (.int .i64 (d j : Int))
                refine World.rowIs.congr (f := fun p => if p = k then .int .i64 (d j : Int) else if p = j then .int .i64 (d k : Int) else .int .i64 (d p : Int)) hr2 (fun p hp => ?_)
                have hjk := HK.out
                subst hjk
                unfold swp
                by_cases e1 : p = k
                · simp [e1]
                · by_cases e2 : p = k + 1
                  · simp [e2]
                  · simp [e1, e2]
              · have hjk := HK.out
                subst hjk
                have h := HBU.out
                rw [bub, if_pos (Eq.mp HBE.out HNEG.out)] at h
                exact h
              · exact ((HBX.out.setCell (p := ⟨g, j, none⟩) hg (.int .i64 (d k : Int))).setCell (p := ⟨g, k, none⟩) hg (.int .i64 (d j : Int))).drew
          · have HNEG := hide hneg
            go_upto_region 4 with (fail)
            go_region_held3 (fun w' => Below wr.heap.size wr w' ∧ w'.cell? ⟨g, j, none⟩ = some (.int .i64 (d j : Int)) ∧ w'.cell? ⟨g, k, none⟩ = some (.int .i64 (d k : Int))) (first | exact SK _ (Below.refl _ _).drew | exact SK _ (Below.refl _ _) | exact SK _ (bel_next (by assumption) (by assumption) (Nat.le_refl _)))
              (first
                | (go_at_call 102; refine (ordcmp_any _ v L HVr.out.1 Bs hBr.out (d j) (d k) (HD.out _ hjn) (HD.out _ hkn)).mono ?_; rw [HO.out]; rintro e wx ⟨rfl, hbW⟩))
            obtain ⟨hbx, c0x, c1x⟩ : Below wr.heap.size wr wx ∧ wx.cell? ⟨g, j, none⟩ = some (.int .i64 (d j : Int)) ∧ wx.cell? ⟨g, k, none⟩ = some (.int .i64 (d k : Int)) := by assumption
            have hrx := HR1.out.of_block (hbx.block g hglt)
            have HRX := hide hrx
            have HBX := hide (HB1.out.trans (hbx.mono (Nat.le_trans hg (Nat.le_of_lt hglt))))
            clear hrx hbx SK c0 c1
            go_wp2_with fail
            go_roundg (g0 - 1)
            case measure => have := HQ0.out; have := HG0.out; omega
            case rel =>
              refine ⟨i + 1, by go_num, by omega, .inl (by omega), by have := HQ0.out; have := HG0.out; omega, ?_, HBX.out⟩
              have hjk := HK.out
              subst hjk
              have h := HBU.out
              rw [bub, if_neg (fun hb => by have h1 := Eq.mpr HBE.out hb; have h2 := HNEG.out; omega)] at h
              rw [← h]; exact HRX.out
    · have hii : ¬ (i : Int) < (L.length : Int) := by omega
      go_wp2_with fail
      go_end0
      refine ⟨⟨_, rfl⟩, HR0.out.congr (fun p hp => ?_), HB0.out⟩
      have : i = L.length := by omega
      rw [this]

set_option maxRecDepth 100000 in
set_option maxHeartbeats 2000000 in
theorem stable_any (w : World) (v : Value) (L : List S2) (B Bs g : Nat) (hv : PtsB B w v L) (hB : w.cell? ⟨Bs, 0, none⟩ = some v) (hBs : Bs < B) (hg : B ≤ g) (hn : L.length ≤ 8)
    (hrow : w.rowIs g 3 L.length (fun p => .int .i64 (p : Int))) :
    Calls Tryz.prog 137 #[.slice (some ⟨g, 0, none⟩) L.length L.length, .int .i64 (L.length : Int), .func (.func 102) #[] #[.pointer (some ⟨Bs, 0, none⟩)]] w fun e w' => (∃ u, e = .returned u) ∧ w'.rowIs g 3 L.length (fun p => .int .i64 (ins L L.length p : Int)) ∧ Below B w w' := by
  have h20 : ¬ (20 : Int) ≤ (L.length : Int) := by omega
  have h20b : ¬ (20 : Int) < (L.length : Int) := by omega
  have HI := hide (insort_any w v L B Bs g hv hB hBs hg (by omega) hrow)
  clear hv hB hrow
  go_enter Tryz.func137, Tryz.ntmps137
  go_wp2_with fail
  go_loopg [7, 8] 0 (fun _ av bv wr => av = .int .i64 0 ∧ bv = .int .i64 20 ∧ wr = w)
  case atStart => exact ⟨rfl, rfl, rfl⟩
  case round =>
    obtain ⟨rfl, rfl, rfl⟩ := hrel
    go_wp2_with fail
    refine HI.out.mono ?_
    rintro e w2 ⟨⟨u, rfl⟩, hr, hb⟩
    have HR := hide hr
    have HB := hide hb
    clear hr hb
    go_wp2_with fail
    go_loopg [6] 0 (fun _ sv wr => sv = .int .i64 20 ∧ wr = w2)
    case atStart => exact ⟨rfl, rfl⟩
    case round =>
      obtain ⟨rfl, rfl⟩ := hrel
      go_wp2_with fail
      go_end0
      exact ⟨⟨_, rfl⟩, HR.out, HB.out⟩

set_option maxRecDepth 100000 in
theorem sortstable_any (w : World) (v : Value) (L : List S2) (B Bs g : Nat) (hv : PtsB B w v L) (hB : w.cell? ⟨Bs, 0, none⟩ = some v) (hBs : Bs < B) (hg : B ≤ g) (hn : L.length ≤ 8)
    (hrow : w.rowIs g 3 L.length (fun p => .int .i64 (p : Int))) :
    Calls Tryz.prog 101 #[.slice (some ⟨g, 0, none⟩) L.length L.length, .func (.func 102) #[] #[.pointer (some ⟨Bs, 0, none⟩)]] w fun e w' => (∃ u, e = .returned u) ∧ w'.rowIs g 3 L.length (fun p => .int .i64 (ins L L.length p : Int)) ∧ Below B w w' := by
  have HI := hide (stable_any w v L B Bs g hv hB hBs hg hn hrow)
  clear hv hB hrow
  go_enter Tryz.func101, Tryz.ntmps101
  go_wp2_with fail
  refine HI.out.mono ?_
  rintro e w2 ⟨⟨u, rfl⟩, hr, hb⟩
  have HR := hide hr
  have HB := hide hb
  clear hr hb
  go_wp2_with fail
  go_end0
  exact ⟨⟨_, rfl⟩, HR.out, HB.out⟩

/-- What Order returns: the indices in order, or nil and an error number. -/
def IdxS (w : World) (v : Value) (L : List S2) : Prop := ∃ (A : Option Addr) (c : Nat), v = .slice A L.length c ∧ (0 < L.length → ∃ g, A = some ⟨g, 0, none⟩ ∧ ∀ p, p < L.length → w.cell? ⟨g, p, none⟩ = some (.int .i64 (ins L L.length p : Int)))
def OrdR (L : List S2) (e : Ending) (w : World) : Prop := ∃ v : Value, e = .returned (.tuple #[v, .int .i64 (chkPtsN L)]) ∧ (if chkPtsN L = 0 then IdxS w v L else v = .slice none 0 0)

set_option maxRecDepth 100000 in
set_option maxHeartbeats 4000000 in
theorem order_ok (w : World) (v : Value) (L : List S2) (hv : Pts w v L) (hchk : chkPtsN L = 0) (hn : L.length ≤ 8) :
    Calls Tryz.prog 49 #[v] w fun e w' => (∃ u, e = .returned (.tuple #[u, .int .i64 0]) ∧ IdxS w' u L) ∧ Below w.heap.size w w' := by
  have HVB := hide (PtsB.of hv)
  obtain ⟨A, c, rfl, _⟩ := id hv
  have HCHK := hide hchk
  have hb0 := hide (nalk w (.cells #[.slice A L.length c] 65))
  have hB0 := hide (show (w.alloc (.cells #[.slice A L.length c] 65)).cell? ⟨w.heap.size, 0, none⟩ = some (.slice A L.length c) from (Blk.cell (Blk.new w 65 #[.slice A L.length c]) 0).trans rfl)
  have hs0 : w.heap.size < (w.alloc (.cells #[.slice A L.length c] 65)).heap.size := by simp
  have hmk := run_make_row' (P := Tryz.prog) 77 3 (.int .i64 0) 8 Tryz.underlying77 info_i rfl .i64 .i64 L.length (by omega) (by omega)
  clear hv hchk
  go_enter Tryz.func49, Tryz.ntmps49
  go_upto_region 1 with (fail)
  have HV0 := hide (HVB.out.below (hb0.out.mono (Nat.le_refl _)))
  generalize (w.alloc (.cells #[.slice A L.length c] 65)) = w0 at *
  have kB := hB0.out
  go_wp2_with fail
  refine (Check_any _ _ L HV0.out.1 (by omega)).mono ?_
  rw [HCHK.out]
  rintro e w1 ⟨rfl, hb1⟩
  have jB := (bcell hb1 _ _ (block_lt_of_cell kB)).trans kB
  have HB1 := hide (hb0.out.trans (hb1.mono hb0.out.size))
  have hs1 : w.heap.size < w1.heap.size := Nat.lt_of_lt_of_le hs0 hb1.size
  clear hb1 kB hB0
  go_wp2_with fail
  have hrow := World.rowIs_made w1 (.int .i64 0) L.length 3
  have hbl : Below w1.heap.size w1 (w1.alloc (.cells (madeCells #[.int .i64 0] L.length) 3)) := nalk _ _
  have iB := (bcell hbl _ _ (block_lt_of_cell jB)).trans jB
  generalize (w1.alloc (.cells (madeCells #[.int .i64 0] L.length) 3)) = w2 at *
  have HROW := hide hrow
  have HBL := hide hbl
  clear hrow hbl hmk jB
  go_loopg [17] L.length (fun q iv wr => ∃ i : Nat, iv = .int .i64 (i : Int) ∧ q + i = L.length ∧ wr.rowIs w1.heap.size 3 L.length (fun p => if p < i then .int .i64 (p : Int) else .int .i64 0) ∧ Below w1.heap.size w1 wr)
  case atStart => exact ⟨0, rfl, rfl, HROW.out.congr (fun p _ => by simp), HBL.out⟩
  case round =>
    obtain ⟨i, rfl, hq, hr, hb⟩ := hrel
    have HQ := hide hq
    have HR := hide hr
    have HB := hide hb
    have hile : i ≤ L.length := by omega
    clear hq hr hb
    by_cases hlt : i < L.length
    · have hii : (i : Int) < (L.length : Int) := by omega
      have c0 := HR.out.cell hlt
      have f0 := HR.out.frozen i
      rw [if_neg (by omega)] at c0
      go_wp2_with fail
      go_roundg (gk - 1)
      case measure => have := HQ.out; omega
      case rel =>
        refine ⟨i + 1, by go_num, by have := HQ.out; omega, (HR.out.set i (.int .i64 (i : Int))).congr (fun p hp => ?_), HB.out.setCell (p := ⟨w1.heap.size, i, none⟩) (Nat.le_refl _) _⟩
        by_cases e1 : p = i
        · simp [e1]
        · by_cases e2 : p < i
          · simp [e1, e2, show p < i + 1 by omega]
          · simp [e1, e2, show ¬ p < i + 1 by omega]
    · have hii : ¬ (i : Int) < (L.length : Int) := by omega
      have rB := (bcell HB.out _ _ hs1).trans ((bcell HBL.out _ _ hs1).symm.trans iB)
      have hrow2 : wr.rowIs w1.heap.size 3 L.length (fun p => .int .i64 (p : Int)) := HR.out.congr (fun p hp => by rw [if_pos (by omega)])
      have HBr := hide (HB1.out.trans (HB.out.mono HB1.out.size))
      have HSS := hide (sortstable_any wr (.slice A L.length c) L w1.heap.size w.heap.size w1.heap.size ⟨(HVB.out.below HBr.out).1, fun b off n c' h h0 => Nat.lt_of_lt_of_le (HVB.out.2 b off n c' h h0) HB1.out.size⟩ rB hs1 (Nat.le_refl _) hn hrow2)
      clear hrow2 rB iB
      go_wp2_with fail
      refine HSS.out.mono ?_
      rintro e w5 ⟨⟨u, rfl⟩, hr5, hb5⟩
      have HR5 := hide hr5
      have HB5 := hide (HBr.out.trans (hb5.mono HB1.out.size))
      clear hr5 hb5
      go_wp2_with fail
      go_ret2
      exact ⟨⟨_, rfl, some ⟨w1.heap.size, 0, none⟩, L.length, rfl, fun _ => ⟨w1.heap.size, rfl, fun p hp => HR5.out.cell hp⟩⟩, HB5.out⟩
end Go.Proofs.YtblfinpfcpglcaaGreatDoor
