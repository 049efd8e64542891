/- metrolabref07.Even. -/
import Derived.Test.YtblfinpfcpglcaaGreatDoorChks
import Derived.Test.YtblfinpfcpglcaaGreatDoorPub2
import Derived.Test.YtblfinpfcpglcaaGreatDoorEven
namespace Go.Proofs.YtblfinpfcpglcaaGreatDoor
open Go.RowKit MLab

/-- The parts of Even4, from the outside in. -/
def Ev3 (L : List S3) (i j k : Nat) : Prop := ∀ m, m < k → six (gS L i) (gS L j) (gS L k) (gS L m) = 0
def Ev2 (L : List S3) (i j : Nat) : Prop := ∀ k, k < j → Ev3 L i j k
def Ev1 (L : List S3) (i : Nat) : Prop := ∀ j, j < i → Ev2 L i j
/-- The Boolean that says whether P. -/
def BoolR (P : Prop) (e : Ending) : Prop := ∃ b : Bool, e = .returned (.bool b) ∧ (b = true → P) ∧ (P → b = true)
theorem Co3 {L : List S3} (hok : L.all okSps = true) {i : Nat} (h : i < L.length) {x y z : Int} (hg : gS L i = (x, y, z)) : Co x ∧ Co y ∧ Co z := by
  have h2 := List.all_eq_true.1 hok (gS L i) (List.mem_of_getElem? (gS_eq h))
  rw [hg] at h2
  exact of_decide_eq_true h2

set_option maxRecDepth 100000 in
set_option maxHeartbeats 8000000 in
theorem reven_any (w : World) (v : Value) (L : List S3) (hv : Sps w v L) (hL : L.length ≤ 1000000000000) (hok : L.all okSps = true) :
    Calls Tryz.prog 81 #[v] w fun e w' => BoolR (Even4 L) e ∧ Below w.heap.size w w' := by
  obtain ⟨A, c, rfl, hc⟩ := id hv
  have HC := hide hc
  have HOK := hide hok
  clear hv hc hok
  go_enter Tryz.func81, Tryz.ntmps81
  go_wp2_with fail
  go_loopg [3] L.length (fun q iv wr => ∃ i : Nat, iv = .int .i64 (i : Int) ∧ q + i = L.length ∧ (∀ x, x < i → Ev1 L x) ∧ Below w.heap.size w wr)
  case atStart => exact ⟨0, rfl, rfl, fun x h => by omega, Below.refl _ _⟩
  case round =>
    obtain ⟨i, rfl, hq, hE, hb⟩ := hrel
    have hi : i ≤ L.length := by omega
    have HQ0 := hide hq
    have HE0 := hide hE
    have HB0 := hide hb
    clear hq hE hb
    obtain ⟨g0, hg0⟩ : ∃ g : Nat, g = gk := ⟨_, rfl⟩
    have HG0 := hide hg0
    clear hg0
    by_cases hlt0 : i < L.length
    · have hi0 : (i : Int) < (L.length : Int) := by omega
      go_wp2_with fail
      go_loopg [4] i (fun q iv wr => ∃ j : Nat, iv = .int .i64 (j : Int) ∧ q + j = i ∧ (∀ x, x < j → Ev2 L i x) ∧ Below w.heap.size w wr)
      case atStart => exact ⟨0, rfl, rfl, fun x h => by omega, HB0.out⟩
      case round =>
        obtain ⟨j, rfl, hq, hE, hb⟩ := hrel
        have hj : j ≤ i := by omega
        have HQ1 := hide hq
        have HE1 := hide hE
        have HB1 := hide hb
        clear hq hE hb
        obtain ⟨g1, hg1⟩ : ∃ g : Nat, g = gk := ⟨_, rfl⟩
        have HG1 := hide hg1
        clear hg1
        by_cases hlt1 : j < i
        · have hi1 : (j : Int) < (i : Int) := by omega
          go_wp2_with fail
          go_loopg [5] j (fun q iv wr => ∃ k : Nat, iv = .int .i64 (k : Int) ∧ q + k = j ∧ (∀ x, x < k → Ev3 L i j x) ∧ Below w.heap.size w wr)
          case atStart => exact ⟨0, rfl, rfl, fun x h => by omega, HB1.out⟩
          case round =>
            obtain ⟨k, rfl, hq, hE, hb⟩ := hrel
            have hk : k ≤ j := by omega
            have HQ2 := hide hq
            have HE2 := hide hE
            have HB2 := hide hb
            clear hq hE hb
            obtain ⟨g2, hg2⟩ : ∃ g : Nat, g = gk := ⟨_, rfl⟩
            have HG2 := hide hg2
            clear hg2
            by_cases hlt2 : k < j
            · have hi2 : (k : Int) < (j : Int) := by omega
              go_wp2_with fail
              go_loopg [6] k (fun q iv wr => ∃ m : Nat, iv = .int .i64 (m : Int) ∧ q + m = k ∧ (∀ x, x < m → six (gS L i) (gS L j) (gS L k) (gS L x) = 0) ∧ Below w.heap.size w wr)
              case atStart => exact ⟨0, rfl, rfl, fun x h => by omega, HB2.out⟩
              case round =>
                obtain ⟨m, rfl, hq, hE, hb⟩ := hrel
                have hm : m ≤ k := by omega
                have HQ3 := hide hq
                have HE3 := hide hE
                have HB3 := hide hb
                clear hq hE hb
                obtain ⟨g3, hg3⟩ : ∃ g : Nat, g = gk := ⟨_, rfl⟩
                have HG3 := hide hg3
                clear hg3
                by_cases hlt3 : m < k
                · have hi3 : (m : Int) < (k : Int) := by omega
                  have l0 : i < L.length := by omega
                  have l1 : j < L.length := by omega
                  have l2 : k < L.length := by omega
                  have l3 : m < L.length := by omega
                  have e0 : (i : Int) < (L.length : Int) := by omega
                  have e1 : (j : Int) < (L.length : Int) := by omega
                  have e2 : (k : Int) < (L.length : Int) := by omega
                  have e3 : (m : Int) < (L.length : Int) := by omega
                  obtain ⟨b, off, hA, hcell⟩ := HC.out (by omega)
                  have HCELL := hide hcell
                  clear hcell HC
                  subst hA
                  obtain ⟨a1, a2, a3, hag⟩ : ∃ x y z, gS L i = (x, y, z) := ⟨_, _, _, rfl⟩
                  obtain ⟨ha1, ha2, ha3⟩ := Co3 HOK.out l0 hag
                  obtain ⟨kaw0, kaw1, kaw2⟩ := HCELL.out i _ (gS_eq l0)
                  rw [hag] at kaw0 kaw1 kaw2
                  have ka0 : wr.cell? ⟨b, off + i * 3, none⟩ = some (.int .i64 a1) := (bcell HB3.out _ _ (block_lt_of_cell kaw0)).trans kaw0
                  have ka1 : wr.cell? ⟨b, off + i * 3 + 1, none⟩ = some (.int .i64 a2) := (bcell HB3.out _ _ (block_lt_of_cell kaw1)).trans kaw1
                  have ka2 : wr.cell? ⟨b, off + i * 3 + 2, none⟩ = some (.int .i64 a3) := (bcell HB3.out _ _ (block_lt_of_cell kaw2)).trans kaw2
                  clear kaw0 kaw1 kaw2
                  obtain ⟨b1, b2, b3, hbg⟩ : ∃ x y z, gS L j = (x, y, z) := ⟨_, _, _, rfl⟩
                  obtain ⟨hb1, hb2, hb3⟩ := Co3 HOK.out l1 hbg
                  obtain ⟨kbw0, kbw1, kbw2⟩ := HCELL.out j _ (gS_eq l1)
                  rw [hbg] at kbw0 kbw1 kbw2
                  have kb0 : wr.cell? ⟨b, off + j * 3, none⟩ = some (.int .i64 b1) := (bcell HB3.out _ _ (block_lt_of_cell kbw0)).trans kbw0
                  have kb1 : wr.cell? ⟨b, off + j * 3 + 1, none⟩ = some (.int .i64 b2) := (bcell HB3.out _ _ (block_lt_of_cell kbw1)).trans kbw1
                  have kb2 : wr.cell? ⟨b, off + j * 3 + 2, none⟩ = some (.int .i64 b3) := (bcell HB3.out _ _ (block_lt_of_cell kbw2)).trans kbw2
                  clear kbw0 kbw1 kbw2
                  obtain ⟨c1, c2, c3, hcg⟩ : ∃ x y z, gS L k = (x, y, z) := ⟨_, _, _, rfl⟩
                  obtain ⟨hc1, hc2, hc3⟩ := Co3 HOK.out l2 hcg
                  obtain ⟨kcw0, kcw1, kcw2⟩ := HCELL.out k _ (gS_eq l2)
                  rw [hcg] at kcw0 kcw1 kcw2
                  have kc0 : wr.cell? ⟨b, off + k * 3, none⟩ = some (.int .i64 c1) := (bcell HB3.out _ _ (block_lt_of_cell kcw0)).trans kcw0
                  have kc1 : wr.cell? ⟨b, off + k * 3 + 1, none⟩ = some (.int .i64 c2) := (bcell HB3.out _ _ (block_lt_of_cell kcw1)).trans kcw1
                  have kc2 : wr.cell? ⟨b, off + k * 3 + 2, none⟩ = some (.int .i64 c3) := (bcell HB3.out _ _ (block_lt_of_cell kcw2)).trans kcw2
                  clear kcw0 kcw1 kcw2
                  obtain ⟨d1, d2, d3, hdg⟩ : ∃ x y z, gS L m = (x, y, z) := ⟨_, _, _, rfl⟩
                  obtain ⟨hd1, hd2, hd3⟩ := Co3 HOK.out l3 hdg
                  obtain ⟨kdw0, kdw1, kdw2⟩ := HCELL.out m _ (gS_eq l3)
                  rw [hdg] at kdw0 kdw1 kdw2
                  have kd0 : wr.cell? ⟨b, off + m * 3, none⟩ = some (.int .i64 d1) := (bcell HB3.out _ _ (block_lt_of_cell kdw0)).trans kdw0
                  have kd1 : wr.cell? ⟨b, off + m * 3 + 1, none⟩ = some (.int .i64 d2) := (bcell HB3.out _ _ (block_lt_of_cell kdw1)).trans kdw1
                  have kd2 : wr.cell? ⟨b, off + m * 3 + 2, none⟩ = some (.int .i64 d3) := (bcell HB3.out _ _ (block_lt_of_cell kdw2)).trans kdw2
                  clear kdw0 kdw1 kdw2
                  obtain ⟨X, hX⟩ : ∃ z : Int, ((b2 - a2) * (c3 - a3) - (b3 - a3) * (c2 - a2)) * (d1 - a1) + ((b3 - a3) * (c1 - a1) - (b1 - a1) * (c3 - a3)) * (d2 - a2) + ((b1 - a1) * (c2 - a2) - (b2 - a2) * (c1 - a1)) * (d3 - a3) = z := ⟨_, rfl⟩
                  have hX6 : six (gS L i) (gS L j) (gS L k) (gS L m) = X := by rw [hag, hbg, hcg, hdg]; exact hX
                  have HX6 := hide hX6
                  have HX := hide hX
                  clear hX6 hX hag hbg hcg hdg
                  have SK : ∀ w', Below wr.heap.size wr w' → Below wr.heap.size wr w' ∧ w'.cell? ⟨b, off + i * 3, none⟩ = some (.int .i64 a1) ∧ w'.cell? ⟨b, off + i * 3 + 1, none⟩ = some (.int .i64 a2) ∧ w'.cell? ⟨b, off + i * 3 + 2, none⟩ = some (.int .i64 a3) ∧ w'.cell? ⟨b, off + j * 3, none⟩ = some (.int .i64 b1) ∧ w'.cell? ⟨b, off + j * 3 + 1, none⟩ = some (.int .i64 b2) ∧ w'.cell? ⟨b, off + j * 3 + 2, none⟩ = some (.int .i64 b3) ∧ w'.cell? ⟨b, off + k * 3, none⟩ = some (.int .i64 c1) ∧ w'.cell? ⟨b, off + k * 3 + 1, none⟩ = some (.int .i64 c2) ∧ w'.cell? ⟨b, off + k * 3 + 2, none⟩ = some (.int .i64 c3) ∧ w'.cell? ⟨b, off + m * 3, none⟩ = some (.int .i64 d1) ∧ w'.cell? ⟨b, off + m * 3 + 1, none⟩ = some (.int .i64 d2) ∧ w'.cell? ⟨b, off + m * 3 + 2, none⟩ = some (.int .i64 d3) := fun w' h => ⟨h, (bcell h _ _ (block_lt_of_cell ka0)).trans ka0, (bcell h _ _ (block_lt_of_cell ka1)).trans ka1, (bcell h _ _ (block_lt_of_cell ka2)).trans ka2, (bcell h _ _ (block_lt_of_cell kb0)).trans kb0, (bcell h _ _ (block_lt_of_cell kb1)).trans kb1, (bcell h _ _ (block_lt_of_cell kb2)).trans kb2, (bcell h _ _ (block_lt_of_cell kc0)).trans kc0, (bcell h _ _ (block_lt_of_cell kc1)).trans kc1, (bcell h _ _ (block_lt_of_cell kc2)).trans kc2, (bcell h _ _ (block_lt_of_cell kd0)).trans kd0, (bcell h _ _ (block_lt_of_cell kd1)).trans kd1, (bcell h _ _ (block_lt_of_cell kd2)).trans kd2⟩
                  by_cases hz : X = 0
                  · have hxz := hz
                    go_upto_region 13 with (fail)
                    go_region_held3 (fun w' => Below wr.heap.size wr w' ∧ w'.cell? ⟨b, off + i * 3, none⟩ = some (.int .i64 a1) ∧ w'.cell? ⟨b, off + i * 3 + 1, none⟩ = some (.int .i64 a2) ∧ w'.cell? ⟨b, off + i * 3 + 2, none⟩ = some (.int .i64 a3) ∧ w'.cell? ⟨b, off + j * 3, none⟩ = some (.int .i64 b1) ∧ w'.cell? ⟨b, off + j * 3 + 1, none⟩ = some (.int .i64 b2) ∧ w'.cell? ⟨b, off + j * 3 + 2, none⟩ = some (.int .i64 b3) ∧ w'.cell? ⟨b, off + k * 3, none⟩ = some (.int .i64 c1) ∧ w'.cell? ⟨b, off + k * 3 + 1, none⟩ = some (.int .i64 c2) ∧ w'.cell? ⟨b, off + k * 3 + 2, none⟩ = some (.int .i64 c3) ∧ w'.cell? ⟨b, off + m * 3, none⟩ = some (.int .i64 d1) ∧ w'.cell? ⟨b, off + m * 3 + 1, none⟩ = some (.int .i64 d2) ∧ w'.cell? ⟨b, off + m * 3 + 2, none⟩ = some (.int .i64 d3)) (first | exact SK _ (Below.refl _ _).drew | exact SK _ (Below.refl _ _) | exact SK _ (bel_next (by assumption) (by assumption) (Nat.le_refl _)))
                      (first
                        | (go_at_call 73; refine (rsix_any _ a1 a2 a3 b1 b2 b3 c1 c2 c3 d1 d2 d3 ha1 ha2 ha3 hb1 hb2 hb3 hc1 hc2 hc3 hd1 hd2 hd3).mono ?_; rw [HX.out]; rintro e wx ⟨rfl, hbW⟩))
                    go_wp2_with fail
                    go_roundg (g3 - 1)
                    case measure => have := HQ3.out; have := HG3.out; omega
                    case rel =>
                      refine ⟨m + 1, by go_num, by have := HQ3.out; have := HG3.out; omega, fun x hx => ?_, HB3.out.trans (Below.mono (And.left (by assumption)) HB3.out.size)⟩
                      by_cases h : x < m
                      · exact HE3.out x h
                      · have h2 : x = m := by omega
                        rw [h2, HX6.out]; exact hz
                  · go_upto_region 13 with (fail)
                    go_region_held3 (fun w' => Below wr.heap.size wr w' ∧ w'.cell? ⟨b, off + i * 3, none⟩ = some (.int .i64 a1) ∧ w'.cell? ⟨b, off + i * 3 + 1, none⟩ = some (.int .i64 a2) ∧ w'.cell? ⟨b, off + i * 3 + 2, none⟩ = some (.int .i64 a3) ∧ w'.cell? ⟨b, off + j * 3, none⟩ = some (.int .i64 b1) ∧ w'.cell? ⟨b, off + j * 3 + 1, none⟩ = some (.int .i64 b2) ∧ w'.cell? ⟨b, off + j * 3 + 2, none⟩ = some (.int .i64 b3) ∧ w'.cell? ⟨b, off + k * 3, none⟩ = some (.int .i64 c1) ∧ w'.cell? ⟨b, off + k * 3 + 1, none⟩ = some (.int .i64 c2) ∧ w'.cell? ⟨b, off + k * 3 + 2, none⟩ = some (.int .i64 c3) ∧ w'.cell? ⟨b, off + m * 3, none⟩ = some (.int .i64 d1) ∧ w'.cell? ⟨b, off + m * 3 + 1, none⟩ = some (.int .i64 d2) ∧ w'.cell? ⟨b, off + m * 3 + 2, none⟩ = some (.int .i64 d3)) (first | exact SK _ (Below.refl _ _).drew | exact SK _ (Below.refl _ _) | exact SK _ (bel_next (by assumption) (by assumption) (Nat.le_refl _)))
                      (first
                        | (go_at_call 73; refine (rsix_any _ a1 a2 a3 b1 b2 b3 c1 c2 c3 d1 d2 d3 ha1 ha2 ha3 hb1 hb2 hb3 hc1 hc2 hc3 hd1 hd2 hd3).mono ?_; rw [HX.out]; rintro e wx ⟨rfl, hbW⟩))
                    go_wp2_with fail
                    go_ret
                    exact ⟨⟨false, rfl, by simp, fun h => (hz (HX6.out.symm.trans (h i j k m (by omega) (by omega) (by omega) (by omega)))).elim⟩, HB3.out.trans (Below.mono (And.left (by assumption)) HB3.out.size)⟩
                · have hi3 : ¬ (m : Int) < (k : Int) := by omega
                  go_wp2_with fail
                  go_roundg (g2 - 1)
                  case measure => have := HQ2.out; have := HG2.out; omega
                  case rel =>
                    refine ⟨k + 1, by go_num, by have := HQ2.out; have := HG2.out; omega, fun x hx => ?_, HB3.out⟩
                    by_cases h : x < k
                    · exact HE2.out x h
                    · have h2 : x = k := by omega
                      rw [h2]
                      exact fun y h3 => HE3.out y (by omega)
            · have hi2 : ¬ (k : Int) < (j : Int) := by omega
              go_wp2_with fail
              go_roundg (g1 - 1)
              case measure => have := HQ1.out; have := HG1.out; omega
              case rel =>
                refine ⟨j + 1, by go_num, by have := HQ1.out; have := HG1.out; omega, fun x hx => ?_, HB2.out⟩
                by_cases h : x < j
                · exact HE1.out x h
                · have h2 : x = j := by omega
                  rw [h2]
                  exact fun y h3 => HE2.out y (by omega)
        · have hi1 : ¬ (j : Int) < (i : Int) := by omega
          go_wp2_with fail
          go_roundg (g0 - 1)
          case measure => have := HQ0.out; have := HG0.out; omega
          case rel =>
            refine ⟨i + 1, by go_num, by have := HQ0.out; have := HG0.out; omega, fun x hx => ?_, HB1.out⟩
            by_cases h : x < i
            · exact HE0.out x h
            · have h2 : x = i := by omega
              rw [h2]
              exact fun y h3 => HE1.out y (by omega)
    · have hi0 : ¬ (i : Int) < (L.length : Int) := by omega
      go_wp2_with fail
      go_ret
      exact ⟨⟨true, rfl, fun _ => fun i2 j2 k2 m2 a1 a2 a3 a4 => HE0.out i2 (by omega) j2 a3 k2 a2 m2 a1, fun _ => rfl⟩, HB0.out⟩

end Go.Proofs.YtblfinpfcpglcaaGreatDoor
