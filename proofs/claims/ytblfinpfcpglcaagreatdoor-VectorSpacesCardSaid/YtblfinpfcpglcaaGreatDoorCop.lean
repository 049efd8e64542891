/- vector.Coplanar of right points. -/
import Derived.Test.YtblfinpfcpglcaaGreatDoorEvenw
import Derived.Test.YtblfinpfcpglcaaGreatDoorNear
namespace Go.Proofs.YtblfinpfcpglcaaGreatDoor
open Go.RowKit MLab

theorem bel_al {w0 w : World} (h : Below w0.heap.size w0 w) (o : Obj) : Below w0.heap.size w0 (w.alloc o) := h.alloc h.size o
theorem bel_set3 {B : Nat} {w0 w : World} {R : Prop} (h : Below B w0 w ∧ R) (d : Nat) (hd : B ≤ d) (x y z : Value) : Below B w0 (((w.setCell ⟨d, 0, none⟩ x).setCell ⟨d, 1, none⟩ y).setCell ⟨d, 2, none⟩ z) :=
  ((h.1.setCell (p := ⟨d, 0, none⟩) hd x).setCell (p := ⟨d, 1, none⟩) hd y).setCell (p := ⟨d, 2, none⟩) hd z
theorem nalc (w : World) (a : Obj) : Below w.heap.size w (w.alloc a) := allocs_below w [a]
/-- What a function with a Boolean and an error number returns: whether P. -/
def PairR (P : Prop) (n : Int) (e : Ending) : Prop := ∃ b : Bool, e = .returned (.tuple #[.bool b, .int .i64 n]) ∧ (b = true → P) ∧ (P → b = true)

set_option maxRecDepth 100000 in
set_option maxHeartbeats 8000000 in
theorem coplanar_ok (w : World) (v : Value) (L : List S3) (hv : Sps w v L) (hL : L.length ≤ 1000000000000) (hchk : chkSpsN L = 0) (hok : L.all okSps = true) :
    Calls Tryz.prog 30 #[v] w fun e w' => PairR (Even4 L) 0 e ∧ Below w.heap.size w w' := by
  have HV := hide hv
  obtain ⟨A, c, rfl, hc⟩ := id hv
  have HC := hide hc
  have HOK := hide hok
  clear hv hc hok
  go_enter Tryz.func30, Tryz.ntmps30
  go_wp2_with fail
  refine (CheckSpots_any _ _ L HV.out hL).mono ?_
  rw [hchk]
  rintro e w1 ⟨rfl, hb1⟩
  have HB1 := hide hb1
  clear hb1 hchk HV
  go_wp2_with fail
  go_loopg [18] L.length (fun q iv wr => ∃ i : Nat, iv = .int .i64 (i : Int) ∧ q + i = L.length ∧ (∀ x, x < i → ∀ y, y < x → Par (gS L 0) (gS L y) (gS L x)) ∧ Below w.heap.size w wr)
  case atStart => exact ⟨0, rfl, rfl, fun x h => by omega, HB1.out⟩
  case round =>
    obtain ⟨i, rfl, hq, hE, hb⟩ := hrel
    have hi : i ≤ L.length := by omega
    have HQ2 := hide hq
    have HE2 := hide hE
    have HB2 := hide hb
    clear hq hE hb
    obtain ⟨g2, hg2⟩ : ∃ g : Nat, g = gk := ⟨_, rfl⟩
    have HG2 := hide hg2
    clear hg2
    by_cases hlt2 : i < L.length
    · have hi2 : (i : Int) < (L.length : Int) := by omega
      go_wp2_with fail
      go_loopg [22] i (fun q iv wr => ∃ k : Nat, iv = .int .i64 (k : Int) ∧ q + k = i ∧ (∀ y, y < k → Par (gS L 0) (gS L y) (gS L i)) ∧ Below w.heap.size w wr)
      case atStart => exact ⟨0, rfl, rfl, fun x h => by omega, HB2.out⟩
      case round =>
        obtain ⟨k, rfl, hq, hE, hb⟩ := hrel
        have hk : k ≤ i := by omega
        have HQ3 := hide hq
        have HE3 := hide hE
        have HB3 := hide hb
        clear hq hE hb
        obtain ⟨g3, hg3⟩ : ∃ g : Nat, g = gk := ⟨_, rfl⟩
        have HG3 := hide hg3
        clear hg3
        by_cases hlt3 : k < i
        · have hi3 : (k : Int) < (i : Int) := by omega
          have l0 : 0 < L.length := by omega
          have l1 : k < L.length := by omega
          have l2 : i < L.length := by omega
          have e0 : (0 : Int) < (L.length : Int) := by omega
          have e1 : (k : Int) < (L.length : Int) := by omega
          obtain ⟨b, off, hA, hcell⟩ := HC.out (by omega)
          have HCELL := hide hcell
          clear hcell HC
          subst hA
          obtain ⟨o1, o2, o3, hog⟩ : ∃ x y z, gS L 0 = (x, y, z) := ⟨_, _, _, rfl⟩
          obtain ⟨ho1, ho2, ho3⟩ := Co3 HOK.out l0 hog
          obtain ⟨kow0, kow1, kow2⟩ := HCELL.out 0 _ (gS_eq l0)
          rw [hog] at kow0 kow1 kow2
          have ko0 : wr.cell? ⟨b, off, none⟩ = some (.int .i64 o1) := (bcell HB3.out _ _ (block_lt_of_cell kow0)).trans kow0
          have ko1 : wr.cell? ⟨b, off + 1, none⟩ = some (.int .i64 o2) := (bcell HB3.out _ _ (block_lt_of_cell kow1)).trans kow1
          have ko2 : wr.cell? ⟨b, off + 2, none⟩ = some (.int .i64 o3) := (bcell HB3.out _ _ (block_lt_of_cell kow2)).trans kow2
          clear kow0 kow1 kow2
          obtain ⟨p1, p2, p3, hpg⟩ : ∃ x y z, gS L k = (x, y, z) := ⟨_, _, _, rfl⟩
          obtain ⟨hp1, hp2, hp3⟩ := Co3 HOK.out l1 hpg
          obtain ⟨kpw0, kpw1, kpw2⟩ := HCELL.out k _ (gS_eq l1)
          rw [hpg] at kpw0 kpw1 kpw2
          have kp0 : wr.cell? ⟨b, off + k * 3, none⟩ = some (.int .i64 p1) := (bcell HB3.out _ _ (block_lt_of_cell kpw0)).trans kpw0
          have kp1 : wr.cell? ⟨b, off + k * 3 + 1, none⟩ = some (.int .i64 p2) := (bcell HB3.out _ _ (block_lt_of_cell kpw1)).trans kpw1
          have kp2 : wr.cell? ⟨b, off + k * 3 + 2, none⟩ = some (.int .i64 p3) := (bcell HB3.out _ _ (block_lt_of_cell kpw2)).trans kpw2
          clear kpw0 kpw1 kpw2
          obtain ⟨q1, q2, q3, hqg⟩ : ∃ x y z, gS L i = (x, y, z) := ⟨_, _, _, rfl⟩
          obtain ⟨hq1, hq2, hq3⟩ := Co3 HOK.out l2 hqg
          obtain ⟨kqw0, kqw1, kqw2⟩ := HCELL.out i _ (gS_eq l2)
          rw [hqg] at kqw0 kqw1 kqw2
          have kq0 : wr.cell? ⟨b, off + i * 3, none⟩ = some (.int .i64 q1) := (bcell HB3.out _ _ (block_lt_of_cell kqw0)).trans kqw0
          have kq1 : wr.cell? ⟨b, off + i * 3 + 1, none⟩ = some (.int .i64 q2) := (bcell HB3.out _ _ (block_lt_of_cell kqw1)).trans kqw1
          have kq2 : wr.cell? ⟨b, off + i * 3 + 2, none⟩ = some (.int .i64 q3) := (bcell HB3.out _ _ (block_lt_of_cell kqw2)).trans kqw2
          clear kqw0 kqw1 kqw2
          obtain ⟨m0a, m0b⟩ := mulB (x := p2 - o2) (y := q3 - o3) (M := 200000) (N := 200000) (by omega) (by omega)
          obtain ⟨m1a, m1b⟩ := mulB (x := p3 - o3) (y := q2 - o2) (M := 200000) (N := 200000) (by omega) (by omega)
          obtain ⟨m2a, m2b⟩ := mulB (x := p3 - o3) (y := q1 - o1) (M := 200000) (N := 200000) (by omega) (by omega)
          obtain ⟨m3a, m3b⟩ := mulB (x := p1 - o1) (y := q3 - o3) (M := 200000) (N := 200000) (by omega) (by omega)
          obtain ⟨m4a, m4b⟩ := mulB (x := p1 - o1) (y := q2 - o2) (M := 200000) (N := 200000) (by omega) (by omega)
          obtain ⟨m5a, m5b⟩ := mulB (x := p2 - o2) (y := q1 - o1) (M := 200000) (N := 200000) (by omega) (by omega)
          obtain ⟨U, hU⟩ : ∃ z : Int, (p2 - o2) * (q3 - o3) - (p3 - o3) * (q2 - o2) = z := ⟨_, rfl⟩
          obtain ⟨V, hV⟩ : ∃ z : Int, (p3 - o3) * (q1 - o1) - (p1 - o1) * (q3 - o3) = z := ⟨_, rfl⟩
          obtain ⟨Z, hZ⟩ : ∃ z : Int, (p1 - o1) * (q2 - o2) - (p2 - o2) * (q1 - o1) = z := ⟨_, rfl⟩
          have NU := hide (show Nf U from by rw [← hU]; constructor <;> omega)
          have NV := hide (show Nf V from by rw [← hV]; constructor <;> omega)
          have NZ := hide (show Nf Z from by rw [← hZ]; constructor <;> omega)
          clear m0a m0b m1a m1b m2a m2b m3a m3b m4a m4b m5a m5b
          have hpar : Par (gS L 0) (gS L k) (gS L i) ↔ (U = 0 ∧ V = 0 ∧ Z = 0) := by rw [hog, hpg, hqg, ← hU, ← hV, ← hZ]; exact Iff.rfl
          have HPAR := hide hpar
          have hsix : ∀ x y z : Int, six (gS L 0) (gS L k) (gS L i) (x, y, z) = U * (x - o1) + V * (y - o2) + Z * (z - o3) := by intro x y z; rw [hog, hpg, hqg, ← hU, ← hV, ← hZ]
          have HSIX := hide hsix
          have HU := hide hU
          have HV := hide hV
          have HZ := hide hZ
          have HOG := hide hog
          clear hpar hsix hU hV hZ hog hpg hqg
          have SK : ∀ w', Below wr.heap.size wr w' → Below wr.heap.size wr w' ∧ w'.cell? ⟨b, off, none⟩ = some (.int .i64 o1) ∧ w'.cell? ⟨b, off + 1, none⟩ = some (.int .i64 o2) ∧ w'.cell? ⟨b, off + 2, none⟩ = some (.int .i64 o3) ∧ w'.cell? ⟨b, off + k * 3, none⟩ = some (.int .i64 p1) ∧ w'.cell? ⟨b, off + k * 3 + 1, none⟩ = some (.int .i64 p2) ∧ w'.cell? ⟨b, off + k * 3 + 2, none⟩ = some (.int .i64 p3) ∧ w'.cell? ⟨b, off + i * 3, none⟩ = some (.int .i64 q1) ∧ w'.cell? ⟨b, off + i * 3 + 1, none⟩ = some (.int .i64 q2) ∧ w'.cell? ⟨b, off + i * 3 + 2, none⟩ = some (.int .i64 q3) := fun w' h => ⟨h, (bcell h _ _ (block_lt_of_cell ko0)).trans ko0, (bcell h _ _ (block_lt_of_cell ko1)).trans ko1, (bcell h _ _ (block_lt_of_cell ko2)).trans ko2, (bcell h _ _ (block_lt_of_cell kp0)).trans kp0, (bcell h _ _ (block_lt_of_cell kp1)).trans kp1, (bcell h _ _ (block_lt_of_cell kp2)).trans kp2, (bcell h _ _ (block_lt_of_cell kq0)).trans kq0, (bcell h _ _ (block_lt_of_cell kq1)).trans kq1, (bcell h _ _ (block_lt_of_cell kq2)).trans kq2⟩
          go_upto_region 10 with (fail)
          go_cut [7] (fun v7 wc => ∃ b7, v7 = .pointer (some ⟨b7, 0, none⟩) ∧ wc.cell? ⟨b7, 0, none⟩ = some (.int .i64 U) ∧ wc.cell? ⟨b7, 1, none⟩ = some (.int .i64 V) ∧ wc.cell? ⟨b7, 2, none⟩ = some (.int .i64 Z) ∧ Below wr.heap.size wr wc)
          case first =>
            go_region_held3 (fun w' => Below wr.heap.size wr w' ∧ w'.cell? ⟨b, off, none⟩ = some (.int .i64 o1) ∧ w'.cell? ⟨b, off + 1, none⟩ = some (.int .i64 o2) ∧ w'.cell? ⟨b, off + 2, none⟩ = some (.int .i64 o3) ∧ w'.cell? ⟨b, off + k * 3, none⟩ = some (.int .i64 p1) ∧ w'.cell? ⟨b, off + k * 3 + 1, none⟩ = some (.int .i64 p2) ∧ w'.cell? ⟨b, off + k * 3 + 2, none⟩ = some (.int .i64 p3) ∧ w'.cell? ⟨b, off + i * 3, none⟩ = some (.int .i64 q1) ∧ w'.cell? ⟨b, off + i * 3 + 1, none⟩ = some (.int .i64 q2) ∧ w'.cell? ⟨b, off + i * 3 + 2, none⟩ = some (.int .i64 q3)) (first | exact SK _ (Below.refl _ _).drew | exact SK _ (Below.refl _ _) | exact SK _ (nalc _ _).drew | exact SK _ (nalc _ _) | exact SK _ (bel_alloc (by assumption) (Nat.le_refl _) _) | exact SK _ (by assumption) | exact SK _ (bel_al (by assumption) _) | exact SK _ (bel_set3 (by assumption) _ (Nat.le_refl _) _ _ _) | exact SK _ (bel_next (by assumption) (by assumption) (Nat.le_refl _)))
              (first
                | (go_at_call 68; refine (normal_any _ o1 o2 o3 p1 p2 p3 q1 q2 q3 ho1 ho2 ho3 hp1 hp2 hp3 hq1 hq2 hq3).mono ?_; rw [HU.out, HV.out, HZ.out]; rintro e wx ⟨rfl, hbW⟩; first | (have hN := Blk.below (g := wr.heap.size) (t := 99) (cs := #[.int .i64 0, .int .i64 0, .int .i64 0]) (Blk.drew (Blk.new wr _ _)) hbW (by simp); have hbX : Below wr.heap.size wr wx := (nalc wr (.cells #[.int .i64 0, .int .i64 0, .int .i64 0] 99)).drew.trans (hbW.mono (by simp)); have n0 := (Blk.cell hN 0).trans rfl; have n1 := (Blk.cell hN 1).trans rfl; have n2 := (Blk.cell hN 2).trans rfl; have y0 := Blk.frozen hN 0; have y1 := Blk.frozen hN 1; have y2 := Blk.frozen hN 2; clear hbW) | (have hbX : Below wr.heap.size wr wx := (Below.refl _ _).drew.trans (hbW.mono (Nat.le_refl _)); clear hbW)))
            all_goals
              go_wp2_with fail
              go_meet
              case rel =>
                refine ⟨_, rfl, ?_, ?_, ?_, And.left (by assumption)⟩
                · first | exact (Blk.cell (Blk.new wx _ _) 0).trans rfl | exact (Blk.cell (((hN.set_ 0 _).set_ 1 _).set_ 2 _) 0).trans rfl
                · first | exact (Blk.cell (Blk.new wx _ _) 1).trans rfl | exact (Blk.cell (((hN.set_ 0 _).set_ 1 _).set_ 2 _) 1).trans rfl
                · first | exact (Blk.cell (Blk.new wx _ _) 2).trans rfl | exact (Blk.cell (((hN.set_ 0 _).set_ 1 _).set_ 2 _) 2).trans rfl
          case rest =>
            obtain ⟨b7, rfl, n0, n1, n2, hbc⟩ := hcut
            have HBC := hide (HB3.out.trans (hbc.mono HB3.out.size))
            clear hbc SK ko0 ko1 ko2 kp0 kp1 kp2 kq0 kq1 kq2
            by_cases u1 : U = 0
            · by_cases u2 : V = 0
              · by_cases u3 : Z = 0
                · have f1 : (U = 0) = True := eq_true u1
                  have f2 : (V = 0) = True := eq_true u2
                  have f3 : (Z = 0) = True := eq_true u3
                  have H1 := hide u1
                  clear u1
                  have H2 := hide u2
                  clear u2
                  have H3 := hide u3
                  clear u3
                  go_wp2_with fail
                  go_roundg (g3 - 1)
                  case measure => have := HQ3.out; have := HG3.out; omega
                  case rel =>
                    refine ⟨k + 1, by go_num, by have := HQ3.out; have := HG3.out; omega, fun x hx => ?_, HBC.out⟩
                    by_cases h : x < k
                    · exact HE3.out x h
                    · have h2 : x = k := by omega
                      rw [h2]; exact HPAR.out.2 ⟨H1.out, H2.out, H3.out⟩
                · have f1 : (U = 0) = True := eq_true u1
                  have f2 : (V = 0) = True := eq_true u2
                  have f3 : (Z = 0) = False := eq_false u3
                  have hnp : ¬ Par (gS L 0) (gS L k) (gS L i) := fun h => u3 (HPAR.out.1 h).2.2
                  have HNP := hide hnp
                  clear hnp
                  clear u1
                  clear u2
                  clear u3
                  go_wp2_with fail
                  go_loopg [44] L.length (fun q iv wr => ∃ m : Nat, iv = .int .i64 (m : Int) ∧ q + m = L.length ∧ (∀ x, x < m → six (gS L 0) (gS L k) (gS L i) (gS L x) = 0) ∧ Below w.heap.size w wr)
                  case atStart => exact ⟨0, rfl, rfl, fun x h => by omega, HBC.out⟩
                  case round =>
                    obtain ⟨m, rfl, hq, hE, hb⟩ := hrel
                    have hm : m ≤ L.length := by omega
                    have HQ4 := hide hq
                    have HE4 := hide hE
                    have HB4 := hide hb
                    clear hq hE hb
                    obtain ⟨g4, hg4⟩ : ∃ g : Nat, g = gk := ⟨_, rfl⟩
                    have HG4 := hide hg4
                    clear hg4
                    by_cases hlt4 : m < L.length
                    · have hi4 : (m : Int) < (L.length : Int) := by omega
                      obtain ⟨x1, x2, x3, hxg⟩ : ∃ x y z, gS L m = (x, y, z) := ⟨_, _, _, rfl⟩
                      obtain ⟨hx1, hx2, hx3⟩ := Co3 HOK.out hlt4 hxg
                      obtain ⟨kxw0, kxw1, kxw2⟩ := HCELL.out m _ (gS_eq hlt4)
                      rw [hxg] at kxw0 kxw1 kxw2
                      have kx0 : wr.cell? ⟨b, off + m * 3, none⟩ = some (.int .i64 x1) := (bcell HB4.out _ _ (block_lt_of_cell kxw0)).trans kxw0
                      have kx1 : wr.cell? ⟨b, off + m * 3 + 1, none⟩ = some (.int .i64 x2) := (bcell HB4.out _ _ (block_lt_of_cell kxw1)).trans kxw1
                      have kx2 : wr.cell? ⟨b, off + m * 3 + 2, none⟩ = some (.int .i64 x3) := (bcell HB4.out _ _ (block_lt_of_cell kxw2)).trans kxw2
                      clear kxw0 kxw1 kxw2
                      obtain ⟨kow0, kow1, kow2⟩ := HCELL.out 0 _ (gS_eq l0)
                      rw [HOG.out] at kow0 kow1 kow2
                      have ko0 : wr.cell? ⟨b, off, none⟩ = some (.int .i64 o1) := (bcell HB4.out _ _ (block_lt_of_cell kow0)).trans kow0
                      have ko1 : wr.cell? ⟨b, off + 1, none⟩ = some (.int .i64 o2) := (bcell HB4.out _ _ (block_lt_of_cell kow1)).trans kow1
                      have ko2 : wr.cell? ⟨b, off + 2, none⟩ = some (.int .i64 o3) := (bcell HB4.out _ _ (block_lt_of_cell kow2)).trans kow2
                      clear kow0 kow1 kow2
                      obtain ⟨X, hX⟩ : ∃ z : Int, U * (x1 - o1) + V * (x2 - o2) + Z * (x3 - o3) = z := ⟨_, rfl⟩
                      have HX6 := hide (show six (gS L 0) (gS L k) (gS L i) (gS L m) = X from by rw [hxg, HSIX.out]; exact hX)
                      have HX := hide hX
                      clear hX hxg
                      go_upto_region 16 with (fail)
                      have hA4 := Blk.new wr 33 #[.int .i64 x1, .int .i64 x2, .int .i64 x3]
                      have hb4 : Below wr.heap.size wr (wr.alloc (.cells #[.int .i64 x1, .int .i64 x2, .int .i64 x3] 33)) := nalc _ _
                      have ko02 : (wr.alloc (.cells #[.int .i64 x1, .int .i64 x2, .int .i64 x3] 33)).cell? ⟨b, off, none⟩ = some (.int .i64 o1) := (bcell hb4 _ _ (block_lt_of_cell ko0)).trans ko0
                      have ko12 : (wr.alloc (.cells #[.int .i64 x1, .int .i64 x2, .int .i64 x3] 33)).cell? ⟨b, off + 1, none⟩ = some (.int .i64 o2) := (bcell hb4 _ _ (block_lt_of_cell ko1)).trans ko1
                      have ko22 : (wr.alloc (.cells #[.int .i64 x1, .int .i64 x2, .int .i64 x3] 33)).cell? ⟨b, off + 2, none⟩ = some (.int .i64 o3) := (bcell hb4 _ _ (block_lt_of_cell ko2)).trans ko2
                      generalize (wr.alloc (.cells #[.int .i64 x1, .int .i64 x2, .int .i64 x3] 33)) = w4 at *
                      have kx02 : w4.cell? ⟨wr.heap.size, 0, none⟩ = some (.int .i64 x1) := (Blk.cell hA4 0).trans rfl
                      have kx12 : w4.cell? ⟨wr.heap.size, 1, none⟩ = some (.int .i64 x2) := (Blk.cell hA4 1).trans rfl
                      have kx22 : w4.cell? ⟨wr.heap.size, 2, none⟩ = some (.int .i64 x3) := (Blk.cell hA4 2).trans rfl
                      have HB5 := hide (HB4.out.trans (hb4.mono HB4.out.size))
                      clear hA4 hb4 ko0 ko1 ko2 kx0 kx1 kx2
                      have SX : ∀ w', Below w4.heap.size w4 w' → Below w4.heap.size w4 w' ∧ w'.cell? ⟨b, off, none⟩ = some (.int .i64 o1) ∧ w'.cell? ⟨b, off + 1, none⟩ = some (.int .i64 o2) ∧ w'.cell? ⟨b, off + 2, none⟩ = some (.int .i64 o3) ∧ w'.cell? ⟨wr.heap.size, 0, none⟩ = some (.int .i64 x1) ∧ w'.cell? ⟨wr.heap.size, 1, none⟩ = some (.int .i64 x2) ∧ w'.cell? ⟨wr.heap.size, 2, none⟩ = some (.int .i64 x3) := fun w' h => ⟨h, (bcell h _ _ (block_lt_of_cell ko02)).trans ko02, (bcell h _ _ (block_lt_of_cell ko12)).trans ko12, (bcell h _ _ (block_lt_of_cell ko22)).trans ko22, (bcell h _ _ (block_lt_of_cell kx02)).trans kx02, (bcell h _ _ (block_lt_of_cell kx12)).trans kx12, (bcell h _ _ (block_lt_of_cell kx22)).trans kx22⟩
                      by_cases hz : X = 0
                      · have hxz := hz
                        go_region_held3 (fun w' => Below w4.heap.size w4 w' ∧ w'.cell? ⟨b, off, none⟩ = some (.int .i64 o1) ∧ w'.cell? ⟨b, off + 1, none⟩ = some (.int .i64 o2) ∧ w'.cell? ⟨b, off + 2, none⟩ = some (.int .i64 o3) ∧ w'.cell? ⟨wr.heap.size, 0, none⟩ = some (.int .i64 x1) ∧ w'.cell? ⟨wr.heap.size, 1, none⟩ = some (.int .i64 x2) ∧ w'.cell? ⟨wr.heap.size, 2, none⟩ = some (.int .i64 x3)) (first | exact SX _ (Below.refl _ _).drew | exact SX _ (Below.refl _ _) | exact SX _ (bel_next (by assumption) (by assumption) (Nat.le_refl _)))
                          (first
                            | (go_at_call 72; refine (reach_any _ o1 o2 o3 x1 x2 x3 ho1 ho2 ho3 hx1 hx2 hx3).mono ?_; rintro e wx ⟨rfl, hbW⟩)
                            | (go_at_call 71; refine (bdot_any _ U V Z (x1 - o1) (x2 - o2) (x3 - o3) NU.out NV.out NZ.out (by omega) (by omega) (by omega)).mono ?_; rw [HX.out]; rintro e wx ⟨rfl, hbW⟩))
                        go_wp2_with fail
                        go_roundg (g4 - 1)
                        case measure => have := HQ4.out; have := HG4.out; omega
                        case rel =>
                          refine ⟨m + 1, by go_num, by have := HQ4.out; have := HG4.out; omega, fun x hx => ?_, HB5.out.trans (Below.mono (And.left (by assumption)) HB5.out.size)⟩
                          by_cases h : x < m
                          · exact HE4.out x h
                          · have h2 : x = m := by omega
                            rw [h2, HX6.out]; exact hz
                      · go_region_held3 (fun w' => Below w4.heap.size w4 w' ∧ w'.cell? ⟨b, off, none⟩ = some (.int .i64 o1) ∧ w'.cell? ⟨b, off + 1, none⟩ = some (.int .i64 o2) ∧ w'.cell? ⟨b, off + 2, none⟩ = some (.int .i64 o3) ∧ w'.cell? ⟨wr.heap.size, 0, none⟩ = some (.int .i64 x1) ∧ w'.cell? ⟨wr.heap.size, 1, none⟩ = some (.int .i64 x2) ∧ w'.cell? ⟨wr.heap.size, 2, none⟩ = some (.int .i64 x3)) (first | exact SX _ (Below.refl _ _).drew | exact SX _ (Below.refl _ _) | exact SX _ (bel_next (by assumption) (by assumption) (Nat.le_refl _)))
                          (first
                            | (go_at_call 72; refine (reach_any _ o1 o2 o3 x1 x2 x3 ho1 ho2 ho3 hx1 hx2 hx3).mono ?_; rintro e wx ⟨rfl, hbW⟩)
                            | (go_at_call 71; refine (bdot_any _ U V Z (x1 - o1) (x2 - o2) (x3 - o3) NU.out NV.out NZ.out (by omega) (by omega) (by omega)).mono ?_; rw [HX.out]; rintro e wx ⟨rfl, hbW⟩))
                        go_wp2_with fail
                        go_ret2
                        exact ⟨⟨false, rfl, by simp, fun h => (not_even hlt3 l2 hlt4 (by rw [HX6.out]; exact hz) h).elim⟩, HB5.out.trans (Below.mono (And.left (by assumption)) HB5.out.size)⟩
                    · have hi4 : ¬ (m : Int) < (L.length : Int) := by omega
                      go_wp2_with fail
                      go_ret2
                      exact ⟨⟨true, rfl, fun _ => even_of_plane HNP.out (fun x hx => HE4.out x (by omega)), fun _ => rfl⟩, HB4.out⟩
              · have f1 : (U = 0) = True := eq_true u1
                have f2 : (V = 0) = False := eq_false u2
                have hnp : ¬ Par (gS L 0) (gS L k) (gS L i) := fun h => u2 (HPAR.out.1 h).2.1
                have HNP := hide hnp
                clear hnp
                clear u1
                clear u2
                go_wp2_with fail
                go_loopg [44] L.length (fun q iv wr => ∃ m : Nat, iv = .int .i64 (m : Int) ∧ q + m = L.length ∧ (∀ x, x < m → six (gS L 0) (gS L k) (gS L i) (gS L x) = 0) ∧ Below w.heap.size w wr)
                case atStart => exact ⟨0, rfl, rfl, fun x h => by omega, HBC.out⟩
                case round =>
                  obtain ⟨m, rfl, hq, hE, hb⟩ := hrel
                  have hm : m ≤ L.length := by omega
                  have HQ4 := hide hq
                  have HE4 := hide hE
                  have HB4 := hide hb
                  clear hq hE hb
                  obtain ⟨g4, hg4⟩ : ∃ g : Nat, g = gk := ⟨_, rfl⟩
                  have HG4 := hide hg4
                  clear hg4
                  by_cases hlt4 : m < L.length
                  · have hi4 : (m : Int) < (L.length : Int) := by omega
                    obtain ⟨x1, x2, x3, hxg⟩ : ∃ x y z, gS L m = (x, y, z) := ⟨_, _, _, rfl⟩
                    obtain ⟨hx1, hx2, hx3⟩ := Co3 HOK.out hlt4 hxg
                    obtain ⟨kxw0, kxw1, kxw2⟩ := HCELL.out m _ (gS_eq hlt4)
                    rw [hxg] at kxw0 kxw1 kxw2
                    have kx0 : wr.cell? ⟨b, off + m * 3, none⟩ = some (.int .i64 x1) := (bcell HB4.out _ _ (block_lt_of_cell kxw0)).trans kxw0
                    have kx1 : wr.cell? ⟨b, off + m * 3 + 1, none⟩ = some (.int .i64 x2) := (bcell HB4.out _ _ (block_lt_of_cell kxw1)).trans kxw1
                    have kx2 : wr.cell? ⟨b, off + m * 3 + 2, none⟩ = some (.int .i64 x3) := (bcell HB4.out _ _ (block_lt_of_cell kxw2)).trans kxw2
                    clear kxw0 kxw1 kxw2
                    obtain ⟨kow0, kow1, kow2⟩ := HCELL.out 0 _ (gS_eq l0)
                    rw [HOG.out] at kow0 kow1 kow2
                    have ko0 : wr.cell? ⟨b, off, none⟩ = some (.int .i64 o1) := (bcell HB4.out _ _ (block_lt_of_cell kow0)).trans kow0
                    have ko1 : wr.cell? ⟨b, off + 1, none⟩ = some (.int .i64 o2) := (bcell HB4.out _ _ (block_lt_of_cell kow1)).trans kow1
                    have ko2 : wr.cell? ⟨b, off + 2, none⟩ = some (.int .i64 o3) := (bcell HB4.out _ _ (block_lt_of_cell kow2)).trans kow2
                    clear kow0 kow1 kow2
                    obtain ⟨X, hX⟩ : ∃ z : Int, U * (x1 - o1) + V * (x2 - o2) + Z * (x3 - o3) = z := ⟨_, rfl⟩
                    have HX6 := hide (show six (gS L 0) (gS L k) (gS L i) (gS L m) = X from by rw [hxg, HSIX.out]; exact hX)
                    have HX := hide hX
                    clear hX hxg
                    go_upto_region 16 with (fail)
                    have hA4 := Blk.new wr 33 #[.int .i64 x1, .int .i64 x2, .int .i64 x3]
                    have hb4 : Below wr.heap.size wr (wr.alloc (.cells #[.int .i64 x1, .int .i64 x2, .int .i64 x3] 33)) := nalc _ _
                    have ko02 : (wr.alloc (.cells #[.int .i64 x1, .int .i64 x2, .int .i64 x3] 33)).cell? ⟨b, off, none⟩ = some (.int .i64 o1) := (bcell hb4 _ _ (block_lt_of_cell ko0)).trans ko0
                    have ko12 : (wr.alloc (.cells #[.int .i64 x1, .int .i64 x2, .int .i64 x3] 33)).cell? ⟨b, off + 1, none⟩ = some (.int .i64 o2) := (bcell hb4 _ _ (block_lt_of_cell ko1)).trans ko1
                    have ko22 : (wr.alloc (.cells #[.int .i64 x1, .int .i64 x2, .int .i64 x3] 33)).cell? ⟨b, off + 2, none⟩ = some (.int .i64 o3) := (bcell hb4 _ _ (block_lt_of_cell ko2)).trans ko2
                    generalize (wr.alloc (.cells #[.int .i64 x1, .int .i64 x2, .int .i64 x3] 33)) = w4 at *
                    have kx02 : w4.cell? ⟨wr.heap.size, 0, none⟩ = some (.int .i64 x1) := (Blk.cell hA4 0).trans rfl
                    have kx12 : w4.cell? ⟨wr.heap.size, 1, none⟩ = some (.int .i64 x2) := (Blk.cell hA4 1).trans rfl
                    have kx22 : w4.cell? ⟨wr.heap.size, 2, none⟩ = some (.int .i64 x3) := (Blk.cell hA4 2).trans rfl
                    have HB5 := hide (HB4.out.trans (hb4.mono HB4.out.size))
                    clear hA4 hb4 ko0 ko1 ko2 kx0 kx1 kx2
                    have SX : ∀ w', Below w4.heap.size w4 w' → Below w4.heap.size w4 w' ∧ w'.cell? ⟨b, off, none⟩ = some (.int .i64 o1) ∧ w'.cell? ⟨b, off + 1, none⟩ = some (.int .i64 o2) ∧ w'.cell? ⟨b, off + 2, none⟩ = some (.int .i64 o3) ∧ w'.cell? ⟨wr.heap.size, 0, none⟩ = some (.int .i64 x1) ∧ w'.cell? ⟨wr.heap.size, 1, none⟩ = some (.int .i64 x2) ∧ w'.cell? ⟨wr.heap.size, 2, none⟩ = some (.int .i64 x3) := fun w' h => ⟨h, (bcell h _ _ (block_lt_of_cell ko02)).trans ko02, (bcell h _ _ (block_lt_of_cell ko12)).trans ko12, (bcell h _ _ (block_lt_of_cell ko22)).trans ko22, (bcell h _ _ (block_lt_of_cell kx02)).trans kx02, (bcell h _ _ (block_lt_of_cell kx12)).trans kx12, (bcell h _ _ (block_lt_of_cell kx22)).trans kx22⟩
                    by_cases hz : X = 0
                    · have hxz := hz
                      go_region_held3 (fun w' => Below w4.heap.size w4 w' ∧ w'.cell? ⟨b, off, none⟩ = some (.int .i64 o1) ∧ w'.cell? ⟨b, off + 1, none⟩ = some (.int .i64 o2) ∧ w'.cell? ⟨b, off + 2, none⟩ = some (.int .i64 o3) ∧ w'.cell? ⟨wr.heap.size, 0, none⟩ = some (.int .i64 x1) ∧ w'.cell? ⟨wr.heap.size, 1, none⟩ = some (.int .i64 x2) ∧ w'.cell? ⟨wr.heap.size, 2, none⟩ = some (.int .i64 x3)) (first | exact SX _ (Below.refl _ _).drew | exact SX _ (Below.refl _ _) | exact SX _ (bel_next (by assumption) (by assumption) (Nat.le_refl _)))
                        (first
                          | (go_at_call 72; refine (reach_any _ o1 o2 o3 x1 x2 x3 ho1 ho2 ho3 hx1 hx2 hx3).mono ?_; rintro e wx ⟨rfl, hbW⟩)
                          | (go_at_call 71; refine (bdot_any _ U V Z (x1 - o1) (x2 - o2) (x3 - o3) NU.out NV.out NZ.out (by omega) (by omega) (by omega)).mono ?_; rw [HX.out]; rintro e wx ⟨rfl, hbW⟩))
                      go_wp2_with fail
                      go_roundg (g4 - 1)
                      case measure => have := HQ4.out; have := HG4.out; omega
                      case rel =>
                        refine ⟨m + 1, by go_num, by have := HQ4.out; have := HG4.out; omega, fun x hx => ?_, HB5.out.trans (Below.mono (And.left (by assumption)) HB5.out.size)⟩
                        by_cases h : x < m
                        · exact HE4.out x h
                        · have h2 : x = m := by omega
                          rw [h2, HX6.out]; exact hz
                    · go_region_held3 (fun w' => Below w4.heap.size w4 w' ∧ w'.cell? ⟨b, off, none⟩ = some (.int .i64 o1) ∧ w'.cell? ⟨b, off + 1, none⟩ = some (.int .i64 o2) ∧ w'.cell? ⟨b, off + 2, none⟩ = some (.int .i64 o3) ∧ w'.cell? ⟨wr.heap.size, 0, none⟩ = some (.int .i64 x1) ∧ w'.cell? ⟨wr.heap.size, 1, none⟩ = some (.int .i64 x2) ∧ w'.cell? ⟨wr.heap.size, 2, none⟩ = some (.int .i64 x3)) (first | exact SX _ (Below.refl _ _).drew | exact SX _ (Below.refl _ _) | exact SX _ (bel_next (by assumption) (by assumption) (Nat.le_refl _)))
                        (first
                          | (go_at_call 72; refine (reach_any _ o1 o2 o3 x1 x2 x3 ho1 ho2 ho3 hx1 hx2 hx3).mono ?_; rintro e wx ⟨rfl, hbW⟩)
                          | (go_at_call 71; refine (bdot_any _ U V Z (x1 - o1) (x2 - o2) (x3 - o3) NU.out NV.out NZ.out (by omega) (by omega) (by omega)).mono ?_; rw [HX.out]; rintro e wx ⟨rfl, hbW⟩))
                      go_wp2_with fail
                      go_ret2
                      exact ⟨⟨false, rfl, by simp, fun h => (not_even hlt3 l2 hlt4 (by rw [HX6.out]; exact hz) h).elim⟩, HB5.out.trans (Below.mono (And.left (by assumption)) HB5.out.size)⟩
                  · have hi4 : ¬ (m : Int) < (L.length : Int) := by omega
                    go_wp2_with fail
                    go_ret2
                    exact ⟨⟨true, rfl, fun _ => even_of_plane HNP.out (fun x hx => HE4.out x (by omega)), fun _ => rfl⟩, HB4.out⟩
            · have f1 : (U = 0) = False := eq_false u1
              have hnp : ¬ Par (gS L 0) (gS L k) (gS L i) := fun h => u1 (HPAR.out.1 h).1
              have HNP := hide hnp
              clear hnp
              clear u1
              go_wp2_with fail
              go_loopg [44] L.length (fun q iv wr => ∃ m : Nat, iv = .int .i64 (m : Int) ∧ q + m = L.length ∧ (∀ x, x < m → six (gS L 0) (gS L k) (gS L i) (gS L x) = 0) ∧ Below w.heap.size w wr)
              case atStart => exact ⟨0, rfl, rfl, fun x h => by omega, HBC.out⟩
              case round =>
                obtain ⟨m, rfl, hq, hE, hb⟩ := hrel
                have hm : m ≤ L.length := by omega
                have HQ4 := hide hq
                have HE4 := hide hE
                have HB4 := hide hb
                clear hq hE hb
                obtain ⟨g4, hg4⟩ : ∃ g : Nat, g = gk := ⟨_, rfl⟩
                have HG4 := hide hg4
                clear hg4
                by_cases hlt4 : m < L.length
                · have hi4 : (m : Int) < (L.length : Int) := by omega
                  obtain ⟨x1, x2, x3, hxg⟩ : ∃ x y z, gS L m = (x, y, z) := ⟨_, _, _, rfl⟩
                  obtain ⟨hx1, hx2, hx3⟩ := Co3 HOK.out hlt4 hxg
                  obtain ⟨kxw0, kxw1, kxw2⟩ := HCELL.out m _ (gS_eq hlt4)
                  rw [hxg] at kxw0 kxw1 kxw2
                  have kx0 : wr.cell? ⟨b, off + m * 3, none⟩ = some (.int .i64 x1) := (bcell HB4.out _ _ (block_lt_of_cell kxw0)).trans kxw0
                  have kx1 : wr.cell? ⟨b, off + m * 3 + 1, none⟩ = some (.int .i64 x2) := (bcell HB4.out _ _ (block_lt_of_cell kxw1)).trans kxw1
                  have kx2 : wr.cell? ⟨b, off + m * 3 + 2, none⟩ = some (.int .i64 x3) := (bcell HB4.out _ _ (block_lt_of_cell kxw2)).trans kxw2
                  clear kxw0 kxw1 kxw2
                  obtain ⟨kow0, kow1, kow2⟩ := HCELL.out 0 _ (gS_eq l0)
                  rw [HOG.out] at kow0 kow1 kow2
                  have ko0 : wr.cell? ⟨b, off, none⟩ = some (.int .i64 o1) := (bcell HB4.out _ _ (block_lt_of_cell kow0)).trans kow0
                  have ko1 : wr.cell? ⟨b, off + 1, none⟩ = some (.int .i64 o2) := (bcell HB4.out _ _ (block_lt_of_cell kow1)).trans kow1
                  have ko2 : wr.cell? ⟨b, off + 2, none⟩ = some (.int .i64 o3) := (bcell HB4.out _ _ (block_lt_of_cell kow2)).trans kow2
                  clear kow0 kow1 kow2
                  obtain ⟨X, hX⟩ : ∃ z : Int, U * (x1 - o1) + V * (x2 - o2) + Z * (x3 - o3) = z := ⟨_, rfl⟩
                  have HX6 := hide (show six (gS L 0) (gS L k) (gS L i) (gS L m) = X from by rw [hxg, HSIX.out]; exact hX)
                  have HX := hide hX
                  clear hX hxg
                  go_upto_region 16 with (fail)
                  have hA4 := Blk.new wr 33 #[.int .i64 x1, .int .i64 x2, .int .i64 x3]
                  have hb4 : Below wr.heap.size wr (wr.alloc (.cells #[.int .i64 x1, .int .i64 x2, .int .i64 x3] 33)) := nalc _ _
                  have ko02 : (wr.alloc (.cells #[.int .i64 x1, .int .i64 x2, .int .i64 x3] 33)).cell? ⟨b, off, none⟩ = some (.int .i64 o1) := (bcell hb4 _ _ (block_lt_of_cell ko0)).trans ko0
                  have ko12 : (wr.alloc (.cells #[.int .i64 x1, .int .i64 x2, .int .i64 x3] 33)).cell? ⟨b, off + 1, none⟩ = some (.int .i64 o2) := (bcell hb4 _ _ (block_lt_of_cell ko1)).trans ko1
                  have ko22 : (wr.alloc (.cells #[.int .i64 x1, .int .i64 x2, .int .i64 x3] 33)).cell? ⟨b, off + 2, none⟩ = some (.int .i64 o3) := (bcell hb4 _ _ (block_lt_of_cell ko2)).trans ko2
                  generalize (wr.alloc (.cells #[.int .i64 x1, .int .i64 x2, .int .i64 x3] 33)) = w4 at *
                  have kx02 : w4.cell? ⟨wr.heap.size, 0, none⟩ = some (.int .i64 x1) := (Blk.cell hA4 0).trans rfl
                  have kx12 : w4.cell? ⟨wr.heap.size, 1, none⟩ = some (.int .i64 x2) := (Blk.cell hA4 1).trans rfl
                  have kx22 : w4.cell? ⟨wr.heap.size, 2, none⟩ = some (.int .i64 x3) := (Blk.cell hA4 2).trans rfl
                  have HB5 := hide (HB4.out.trans (hb4.mono HB4.out.size))
                  clear hA4 hb4 ko0 ko1 ko2 kx0 kx1 kx2
                  have SX : ∀ w', Below w4.heap.size w4 w' → Below w4.heap.size w4 w' ∧ w'.cell? ⟨b, off, none⟩ = some (.int .i64 o1) ∧ w'.cell? ⟨b, off + 1, none⟩ = some (.int .i64 o2) ∧ w'.cell? ⟨b, off + 2, none⟩ = some (.int .i64 o3) ∧ w'.cell? ⟨wr.heap.size, 0, none⟩ = some (.int .i64 x1) ∧ w'.cell? ⟨wr.heap.size, 1, none⟩ = some (.int .i64 x2) ∧ w'.cell? ⟨wr.heap.size, 2, none⟩ = some (.int .i64 x3) := fun w' h => ⟨h, (bcell h _ _ (block_lt_of_cell ko02)).trans ko02, (bcell h _ _ (block_lt_of_cell ko12)).trans ko12, (bcell h _ _ (block_lt_of_cell ko22)).trans ko22, (bcell h _ _ (block_lt_of_cell kx02)).trans kx02, (bcell h _ _ (block_lt_of_cell kx12)).trans kx12, (bcell h _ _ (block_lt_of_cell kx22)).trans kx22⟩
                  by_cases hz : X = 0
                  · have hxz := hz
                    go_region_held3 (fun w' => Below w4.heap.size w4 w' ∧ w'.cell? ⟨b, off, none⟩ = some (.int .i64 o1) ∧ w'.cell? ⟨b, off + 1, none⟩ = some (.int .i64 o2) ∧ w'.cell? ⟨b, off + 2, none⟩ = some (.int .i64 o3) ∧ w'.cell? ⟨wr.heap.size, 0, none⟩ = some (.int .i64 x1) ∧ w'.cell? ⟨wr.heap.size, 1, none⟩ = some (.int .i64 x2) ∧ w'.cell? ⟨wr.heap.size, 2, none⟩ = some (.int .i64 x3)) (first | exact SX _ (Below.refl _ _).drew | exact SX _ (Below.refl _ _) | exact SX _ (bel_next (by assumption) (by assumption) (Nat.le_refl _)))
                      (first
                        | (go_at_call 72; refine (reach_any _ o1 o2 o3 x1 x2 x3 ho1 ho2 ho3 hx1 hx2 hx3).mono ?_; rintro e wx ⟨rfl, hbW⟩)
                        | (go_at_call 71; refine (bdot_any _ U V Z (x1 - o1) (x2 - o2) (x3 - o3) NU.out NV.out NZ.out (by omega) (by omega) (by omega)).mono ?_; rw [HX.out]; rintro e wx ⟨rfl, hbW⟩))
                    go_wp2_with fail
                    go_roundg (g4 - 1)
                    case measure => have := HQ4.out; have := HG4.out; omega
                    case rel =>
                      refine ⟨m + 1, by go_num, by have := HQ4.out; have := HG4.out; omega, fun x hx => ?_, HB5.out.trans (Below.mono (And.left (by assumption)) HB5.out.size)⟩
                      by_cases h : x < m
                      · exact HE4.out x h
                      · have h2 : x = m := by omega
                        rw [h2, HX6.out]; exact hz
                  · go_region_held3 (fun w' => Below w4.heap.size w4 w' ∧ w'.cell? ⟨b, off, none⟩ = some (.int .i64 o1) ∧ w'.cell? ⟨b, off + 1, none⟩ = some (.int .i64 o2) ∧ w'.cell? ⟨b, off + 2, none⟩ = some (.int .i64 o3) ∧ w'.cell? ⟨wr.heap.size, 0, none⟩ = some (.int .i64 x1) ∧ w'.cell? ⟨wr.heap.size, 1, none⟩ = some (.int .i64 x2) ∧ w'.cell? ⟨wr.heap.size, 2, none⟩ = some (.int .i64 x3)) (first | exact SX _ (Below.refl _ _).drew | exact SX _ (Below.refl _ _) | exact SX _ (bel_next (by assumption) (by assumption) (Nat.le_refl _)))
                      (first
                        | (go_at_call 72; refine (reach_any _ o1 o2 o3 x1 x2 x3 ho1 ho2 ho3 hx1 hx2 hx3).mono ?_; rintro e wx ⟨rfl, hbW⟩)
                        | (go_at_call 71; refine (bdot_any _ U V Z (x1 - o1) (x2 - o2) (x3 - o3) NU.out NV.out NZ.out (by omega) (by omega) (by omega)).mono ?_; rw [HX.out]; rintro e wx ⟨rfl, hbW⟩))
                    go_wp2_with fail
                    go_ret2
                    exact ⟨⟨false, rfl, by simp, fun h => (not_even hlt3 l2 hlt4 (by rw [HX6.out]; exact hz) h).elim⟩, HB5.out.trans (Below.mono (And.left (by assumption)) HB5.out.size)⟩
                · have hi4 : ¬ (m : Int) < (L.length : Int) := by omega
                  go_wp2_with fail
                  go_ret2
                  exact ⟨⟨true, rfl, fun _ => even_of_plane HNP.out (fun x hx => HE4.out x (by omega)), fun _ => rfl⟩, HB4.out⟩
        · have hi3 : ¬ (k : Int) < (i : Int) := by omega
          go_wp2_with fail
          go_roundg (g2 - 1)
          case measure => have := HQ2.out; have := HG2.out; omega
          case rel =>
            refine ⟨i + 1, by go_num, by have := HQ2.out; have := HG2.out; omega, fun x hx y hy => ?_, HB3.out⟩
            by_cases h : x < i
            · exact HE2.out x h y hy
            · have h2 : x = i := by omega
              rw [h2]; exact HE3.out y (by omega)
    · have hi2 : ¬ (i : Int) < (L.length : Int) := by omega
      go_wp2_with fail
      go_ret2
      exact ⟨⟨true, rfl, fun _ => even_of_par (fun y x h1 h2 => HE2.out x (by omega) y h1), fun _ => rfl⟩, HB2.out⟩

end Go.Proofs.YtblfinpfcpglcaaGreatDoor
