/- metrolabref07: Straight, Twice, Area. -/
import Derived.Test.YtblfinpfcpglcaaGreatDoorArea
import Derived.Test.YtblfinpfcpglcaaGreatDoorPub2
import Derived.Test.YtblfinpfcpglcaaGreatDoorBools
namespace Go.Proofs.YtblfinpfcpglcaaGreatDoor
open Go.RowKit MLab

/-- The parts of Line3, from the outside in. -/
def Li2 (L : List S2) (i j : Nat) : Prop := ∀ k, k < j → left3 (gP L i) (gP L j) (gP L k) = 0
def Li1 (L : List S2) (i : Nat) : Prop := ∀ j, j < i → Li2 L i j
theorem Co2 {L : List S2} (hok : L.all okPts = true) {i : Nat} (h : i < L.length) {x y : Int} (hg : gP L i = (x, y)) : Co x ∧ Co y := by
  have h2 := List.all_eq_true.1 hok (gP L i) (List.mem_of_getElem? (gP_eq h))
  rw [hg] at h2
  exact of_decide_eq_true h2
theorem area_small {L : List S2} (hok : L.all okPts = true) (hL : L.length ≤ 64) {j : Nat} (hj : j ≤ L.length) : -1280000000000 ≤ areaUp L j ∧ areaUp L j ≤ 1280000000000 := by
  have h := areaUp_bound (L := L) (M := 100000) (by omega) (fun i hi => of_decide_eq_true (List.all_eq_true.1 hok _ (List.mem_of_getElem? (gP_eq hi)))) j hj
  omega

set_option maxRecDepth 100000 in
set_option maxHeartbeats 4000000 in
theorem rtwice_any (w : World) (v : Value) (L : List S2) (hv : Pts w v L) (hL : L.length ≤ 64) (hok : L.all okPts = true) :
    Calls Tryz.prog 97 #[v] w fun e w' => e = .returned (.int .i64 (areaUp L L.length)) ∧ Below w.heap.size w w' := by
  obtain ⟨A, c, rfl, hc⟩ := id hv
  have HC := hide hc
  have HOK := hide hok
  clear hv hc hok
  go_enter Tryz.func97, Tryz.ntmps97
  go_wp2_with fail
  go_loopg [3, 4] L.length (fun q sv iv wr => ∃ j : Nat, iv = .int .i64 (j : Int) ∧ sv = .int .i64 (areaUp L j) ∧ q + j = L.length ∧ Below w.heap.size w wr)
  case atStart => exact ⟨0, rfl, rfl, rfl, Below.refl _ _⟩
  case round =>
    obtain ⟨j, rfl, rfl, hq, hb⟩ := hrel
    have hj : j ≤ L.length := by omega
    have HQ := hide hq
    have HB := hide hb
    clear hq hb
    by_cases hlt : j < L.length
    · have hji : (j : Int) < (L.length : Int) := by omega
      have hlen0 : ¬ (L.length : Int) = 0 := by omega
      have hlen1 : ¬ L.length = 0 := by omega
      have hlen2 : ¬ L = [] := by intro h; rw [h] at hlen1; exact hlen1 rfl
      have hj2 : (j + 1) % L.length < L.length := Nat.mod_lt _ (by omega)
      obtain ⟨j2, hjj⟩ : ∃ j2, (j + 1) % L.length = j2 := ⟨_, rfl⟩
      rw [hjj] at hj2
      have hj2i : (j2 : Int) < (L.length : Int) := by omega
      have hmod : Int.tmod ((j : Int) + 1) (L.length : Int) = (j2 : Int) := by
        rw [← hjj, Int.tmod_eq_emod_of_nonneg (by omega), Int.natCast_emod, Int.natCast_add]; rfl
      have hwr : IntKind.i64.wrap ((j : Int) + 1) = (j : Int) + 1 := IntWalk.i64_in _ ⟨by omega, by omega⟩
      have hmodw : (IntKind.i64.wrap ((j : Int) + 1)).tmod (L.length : Int) = (j2 : Int) := by rw [hwr, hmod]
      have hjpos : (0 : Int) ≤ (j2 : Int) := by omega
      obtain ⟨b, off, hAA, hcell⟩ := HC.out (by omega)
      subst hAA
      obtain ⟨x1, x2, hx⟩ : ∃ x y, gP L j = (x, y) := ⟨_, _, rfl⟩
      obtain ⟨y1, y2, hy⟩ : ∃ x y, gP L j2 = (x, y) := ⟨_, _, rfl⟩
      obtain ⟨hx1, hx2⟩ := Co2 HOK.out hlt hx
      obtain ⟨hy1, hy2⟩ := Co2 HOK.out hj2 hy
      obtain ⟨a0, a1⟩ := hcell j _ (gP_eq hlt)
      obtain ⟨b0, b1⟩ := hcell j2 _ (gP_eq hj2)
      rw [hx] at a0 a1
      rw [hy] at b0 b1
      have c0 := (bcell HB.out _ _ (block_lt_of_cell a0)).trans a0
      have c1 := (bcell HB.out _ _ (block_lt_of_cell a1)).trans a1
      have d0 := (bcell HB.out _ _ (block_lt_of_cell b0)).trans b0
      have d1 := (bcell HB.out _ _ (block_lt_of_cell b1)).trans b1
      clear a0 a1 b0 b1 hcell HC
      obtain ⟨X, hX⟩ : ∃ z : Int, x1 * y2 - x2 * y1 = z := ⟨_, rfl⟩
      have hup : areaUp L (j + 1) = areaUp L j + X := by rw [areaUp, hjj, hx, hy, ← hX]
      have hbd := area_small HOK.out hL (show j + 1 ≤ L.length by omega)
      rw [hup] at hbd
      have hws : IntKind.i64.wrap (areaUp L j + X) = areaUp L j + X := IntWalk.i64_in _ ⟨by omega, by omega⟩
      have HUP := hide hup
      have HX := hide hX
      clear hup hX hbd hx hy
      have SK : ∀ w', Below wr.heap.size wr w' → Below wr.heap.size wr w' ∧ w'.cell? ⟨b, off + j * 2, none⟩ = some (.int .i64 x1) ∧ w'.cell? ⟨b, off + j * 2 + 1, none⟩ = some (.int .i64 x2) ∧ w'.cell? ⟨b, off + j2 * 2, none⟩ = some (.int .i64 y1) ∧ w'.cell? ⟨b, off + j2 * 2 + 1, none⟩ = some (.int .i64 y2) := fun w' h => ⟨h, (bcell h _ _ (block_lt_of_cell c0)).trans c0, (bcell h _ _ (block_lt_of_cell c1)).trans c1, (bcell h _ _ (block_lt_of_cell d0)).trans d0, (bcell h _ _ (block_lt_of_cell d1)).trans d1⟩
      go_upto_region 5 with (fail)
      go_region_held3 (fun w' => Below wr.heap.size wr w' ∧ w'.cell? ⟨b, off + j * 2, none⟩ = some (.int .i64 x1) ∧ w'.cell? ⟨b, off + j * 2 + 1, none⟩ = some (.int .i64 x2) ∧ w'.cell? ⟨b, off + j2 * 2, none⟩ = some (.int .i64 y1) ∧ w'.cell? ⟨b, off + j2 * 2 + 1, none⟩ = some (.int .i64 y2)) (first | exact SK _ (Below.refl _ _).drew | exact SK _ (Below.refl _ _) | exact SK _ (bel_next (by assumption) (by assumption) (Nat.le_refl _)))
        (first
          | (go_at_call 127; refine (rturn_any _ x1 x2 y1 y2 (by omega) (by omega) (by omega) (by omega)).mono ?_; rw [HX.out]; rintro e wx ⟨rfl, hbW⟩))
      go_wp2_with fail
      go_roundg (gk - 1)
      case measure => have := HQ.out; omega
      case rel => exact ⟨j + 1, by go_num, by rw [HUP.out], by have := HQ.out; omega, HB.out.trans (Below.mono (And.left (by assumption)) HB.out.size)⟩
    · have hji : ¬ (j : Int) < (L.length : Int) := by omega
      have hjl : j = L.length := by omega
      subst hjl
      go_wp2_with fail
      go_ret
      exact ⟨rfl, HB.out⟩

set_option maxRecDepth 100000 in
theorem rArea_any (w : World) (v : Value) (L : List S2) (hv : Pts w v L) (hL : L.length ≤ 1000000000000) :
    Calls Tryz.prog 46 #[v] w fun e w' => e = .returned (areaR L) ∧ Below w.heap.size w w' := by
  have bad : ∀ n : Int, (n = 5 ∨ n = 2) → chkPtsN L = n → Calls Tryz.prog 46 #[v] w fun e w' => e = .returned (.tuple #[.int .i64 0, .int .i64 n]) ∧ Below w.heap.size w w' := by
    intro n hn hc
    have HN := hide hn
    have HC := hide hc
    clear hn hc
    go_enter Tryz.func46, Tryz.ntmps46
    go_wp2_with fail
    refine (rCheck_any _ _ L hv hL).mono ?_
    rw [HC.out]
    rintro e w1 ⟨rfl, hb1⟩
    have hn0 : ¬ n = 0 := by rcases HN.out with h | h <;> omega
    go_wp2_with fail
    go_ret2
    exact ⟨rfl, hb1⟩
  rcases chkPtsN_cases L with h | h | ⟨h, hl, hok⟩
  · rw [areaR, h]; exact bad 5 (.inl rfl) h
  · rw [areaR, h]; exact bad 2 (.inr rfl) h
  · rw [areaR, h]
    have HC := hide h
    have HOK := hide hok
    clear h hok bad
    go_enter Tryz.func46, Tryz.ntmps46
    go_wp2_with fail
    refine (rCheck_any _ _ L hv hL).mono ?_
    rw [HC.out]
    rintro e w1 ⟨rfl, hb1⟩
    have HB := hide hb1
    have HV := hide (hv.below hb1)
    clear hb1
    go_wp2_with fail
    refine (rtwice_any _ _ L HV.out hl HOK.out).mono ?_
    rintro e w2 ⟨rfl, hb2⟩
    have HB2 := hide (HB.out.trans (hb2.mono HB.out.size))
    clear hb2
    go_wp2_with fail
    go_ret2
    exact ⟨by simp, HB2.out⟩

set_option maxRecDepth 100000 in
set_option maxHeartbeats 8000000 in
theorem rstraight_any (w : World) (v : Value) (L : List S2) (hv : Pts w v L) (hL : L.length ≤ 1000000000000) (hok : L.all okPts = true) :
    Calls Tryz.prog 100 #[v] w fun e w' => BoolR (Line3 L) e ∧ Below w.heap.size w w' := by
  obtain ⟨A, c, rfl, hc⟩ := id hv
  have HC := hide hc
  have HOK := hide hok
  clear hv hc hok
  go_enter Tryz.func100, Tryz.ntmps100
  go_wp2_with fail
  go_loopg [3] L.length (fun q iv wr => ∃ i : Nat, iv = .int .i64 (i : Int) ∧ q + i = L.length ∧ (∀ x, x < i → Li1 L x) ∧ Below w.heap.size w wr)
  case atStart => exact ⟨0, rfl, rfl, fun x h => by omega, Below.refl _ _⟩
  case round =>
    obtain ⟨i, rfl, hq, hE, hb⟩ := hrel
    have hi : i ≤ L.length := by omega
    have HQ0 := hide hq
    have HE0 := hide hE
    have HB0 := hide hb
    clear hq hE hb
    obtain ⟨g0, hg0⟩ : ∃ g : Nat, g = gk := ⟨_, rfl⟩
    have HG0 := hide hg0
    clear hg0
    by_cases hlt0 : i < L.length
    · have hi0 : (i : Int) < (L.length : Int) := by omega
      go_wp2_with fail
      go_loopg [4] i (fun q iv wr => ∃ j : Nat, iv = .int .i64 (j : Int) ∧ q + j = i ∧ (∀ x, x < j → Li2 L i x) ∧ Below w.heap.size w wr)
      case atStart => exact ⟨0, rfl, rfl, fun x h => by omega, HB0.out⟩
      case round =>
        obtain ⟨j, rfl, hq, hE, hb⟩ := hrel
        have hj : j ≤ i := by omega
        have HQ1 := hide hq
        have HE1 := hide hE
        have HB1 := hide hb
        clear hq hE hb
        obtain ⟨g1, hg1⟩ : ∃ g : Nat, g = gk := ⟨_, rfl⟩
        have HG1 := hide hg1
        clear hg1
        by_cases hlt1 : j < i
        · have hi1 : (j : Int) < (i : Int) := by omega
          go_wp2_with fail
          go_loopg [5] j (fun q iv wr => ∃ k : Nat, iv = .int .i64 (k : Int) ∧ q + k = j ∧ (∀ x, x < k → left3 (gP L i) (gP L j) (gP L x) = 0) ∧ Below w.heap.size w wr)
          case atStart => exact ⟨0, rfl, rfl, fun x h => by omega, HB1.out⟩
          case round =>
            obtain ⟨k, rfl, hq, hE, hb⟩ := hrel
            have hk : k ≤ j := by omega
            have HQ2 := hide hq
            have HE2 := hide hE
            have HB2 := hide hb
            clear hq hE hb
            obtain ⟨g2, hg2⟩ : ∃ g : Nat, g = gk := ⟨_, rfl⟩
            have HG2 := hide hg2
            clear hg2
            by_cases hlt2 : k < j
            · have hi2 : (k : Int) < (j : Int) := by omega
              have l0 : i < L.length := by omega
              have l1 : j < L.length := by omega
              have l2 : k < L.length := by omega
              have e0 : (i : Int) < (L.length : Int) := by omega
              have e1 : (j : Int) < (L.length : Int) := by omega
              have e2 : (k : Int) < (L.length : Int) := by omega
              obtain ⟨b, off, hA, hcell⟩ := HC.out (by omega)
              have HCELL := hide hcell
              clear hcell HC
              subst hA
              obtain ⟨a1, a2, hag⟩ : ∃ x y, gP L i = (x, y) := ⟨_, _, rfl⟩
              obtain ⟨ha1, ha2⟩ := Co2 HOK.out l0 hag
              obtain ⟨kaw0, kaw1⟩ := HCELL.out i _ (gP_eq l0)
              rw [hag] at kaw0 kaw1
              have ka0 : wr.cell? ⟨b, off + i * 2, none⟩ = some (.int .i64 a1) := (bcell HB2.out _ _ (block_lt_of_cell kaw0)).trans kaw0
              have ka1 : wr.cell? ⟨b, off + i * 2 + 1, none⟩ = some (.int .i64 a2) := (bcell HB2.out _ _ (block_lt_of_cell kaw1)).trans kaw1
              clear kaw0 kaw1
              obtain ⟨b1, b2, hbg⟩ : ∃ x y, gP L j = (x, y) := ⟨_, _, rfl⟩
              obtain ⟨hb1, hb2⟩ := Co2 HOK.out l1 hbg
              obtain ⟨kbw0, kbw1⟩ := HCELL.out j _ (gP_eq l1)
              rw [hbg] at kbw0 kbw1
              have kb0 : wr.cell? ⟨b, off + j * 2, none⟩ = some (.int .i64 b1) := (bcell HB2.out _ _ (block_lt_of_cell kbw0)).trans kbw0
              have kb1 : wr.cell? ⟨b, off + j * 2 + 1, none⟩ = some (.int .i64 b2) := (bcell HB2.out _ _ (block_lt_of_cell kbw1)).trans kbw1
              clear kbw0 kbw1
              obtain ⟨c1, c2, hcg⟩ : ∃ x y, gP L k = (x, y) := ⟨_, _, rfl⟩
              obtain ⟨hc1, hc2⟩ := Co2 HOK.out l2 hcg
              obtain ⟨kcw0, kcw1⟩ := HCELL.out k _ (gP_eq l2)
              rw [hcg] at kcw0 kcw1
              have kc0 : wr.cell? ⟨b, off + k * 2, none⟩ = some (.int .i64 c1) := (bcell HB2.out _ _ (block_lt_of_cell kcw0)).trans kcw0
              have kc1 : wr.cell? ⟨b, off + k * 2 + 1, none⟩ = some (.int .i64 c2) := (bcell HB2.out _ _ (block_lt_of_cell kcw1)).trans kcw1
              clear kcw0 kcw1
              obtain ⟨X, hX⟩ : ∃ z : Int, (b1 - a1) * (c2 - a2) - (b2 - a2) * (c1 - a1) = z := ⟨_, rfl⟩
              have hX6 : left3 (gP L i) (gP L j) (gP L k) = X := by rw [hag, hbg, hcg]; exact hX
              have HX6 := hide hX6
              have HX := hide hX
              clear hX6 hX hag hbg hcg
              have SK : ∀ w', Below wr.heap.size wr w' → Below wr.heap.size wr w' ∧ w'.cell? ⟨b, off + i * 2, none⟩ = some (.int .i64 a1) ∧ w'.cell? ⟨b, off + i * 2 + 1, none⟩ = some (.int .i64 a2) ∧ w'.cell? ⟨b, off + j * 2, none⟩ = some (.int .i64 b1) ∧ w'.cell? ⟨b, off + j * 2 + 1, none⟩ = some (.int .i64 b2) ∧ w'.cell? ⟨b, off + k * 2, none⟩ = some (.int .i64 c1) ∧ w'.cell? ⟨b, off + k * 2 + 1, none⟩ = some (.int .i64 c2) := fun w' h => ⟨h, (bcell h _ _ (block_lt_of_cell ka0)).trans ka0, (bcell h _ _ (block_lt_of_cell ka1)).trans ka1, (bcell h _ _ (block_lt_of_cell kb0)).trans kb0, (bcell h _ _ (block_lt_of_cell kb1)).trans kb1, (bcell h _ _ (block_lt_of_cell kc0)).trans kc0, (bcell h _ _ (block_lt_of_cell kc1)).trans kc1⟩
              by_cases hz : X = 0
              · have hxz := hz
                go_upto_region 10 with (fail)
                go_region_held3 (fun w' => Below wr.heap.size wr w' ∧ w'.cell? ⟨b, off + i * 2, none⟩ = some (.int .i64 a1) ∧ w'.cell? ⟨b, off + i * 2 + 1, none⟩ = some (.int .i64 a2) ∧ w'.cell? ⟨b, off + j * 2, none⟩ = some (.int .i64 b1) ∧ w'.cell? ⟨b, off + j * 2 + 1, none⟩ = some (.int .i64 b2) ∧ w'.cell? ⟨b, off + k * 2, none⟩ = some (.int .i64 c1) ∧ w'.cell? ⟨b, off + k * 2 + 1, none⟩ = some (.int .i64 c2)) (first | exact SK _ (Below.refl _ _).drew | exact SK _ (Below.refl _ _) | exact SK _ (bel_next (by assumption) (by assumption) (Nat.le_refl _)))
                  (first
                    | (go_at_call 86; refine (rleft_any _ a1 a2 b1 b2 c1 c2 ha1 ha2 hb1 hb2 hc1 hc2).mono ?_; rw [HX.out]; rintro e wx ⟨rfl, hbW⟩))
                go_wp2_with fail
                go_roundg (g2 - 1)
                case measure => have := HQ2.out; have := HG2.out; omega
                case rel =>
                  refine ⟨k + 1, by go_num, by have := HQ2.out; have := HG2.out; omega, fun x hx => ?_, HB2.out.trans (Below.mono (And.left (by assumption)) HB2.out.size)⟩
                  by_cases h : x < k
                  · exact HE2.out x h
                  · have h2 : x = k := by omega
                    rw [h2, HX6.out]; exact hz
              · go_upto_region 10 with (fail)
                go_region_held3 (fun w' => Below wr.heap.size wr w' ∧ w'.cell? ⟨b, off + i * 2, none⟩ = some (.int .i64 a1) ∧ w'.cell? ⟨b, off + i * 2 + 1, none⟩ = some (.int .i64 a2) ∧ w'.cell? ⟨b, off + j * 2, none⟩ = some (.int .i64 b1) ∧ w'.cell? ⟨b, off + j * 2 + 1, none⟩ = some (.int .i64 b2) ∧ w'.cell? ⟨b, off + k * 2, none⟩ = some (.int .i64 c1) ∧ w'.cell? ⟨b, off + k * 2 + 1, none⟩ = some (.int .i64 c2)) (first | exact SK _ (Below.refl _ _).drew | exact SK _ (Below.refl _ _) | exact SK _ (bel_next (by assumption) (by assumption) (Nat.le_refl _)))
                  (first
                    | (go_at_call 86; refine (rleft_any _ a1 a2 b1 b2 c1 c2 ha1 ha2 hb1 hb2 hc1 hc2).mono ?_; rw [HX.out]; rintro e wx ⟨rfl, hbW⟩))
                go_wp2_with fail
                go_ret
                exact ⟨⟨false, rfl, by simp, fun h => (hz (HX6.out.symm.trans (h i j k (by omega) (by omega) (by omega)))).elim⟩, HB2.out.trans (Below.mono (And.left (by assumption)) HB2.out.size)⟩
            · have hi2 : ¬ (k : Int) < (j : Int) := by omega
              go_wp2_with fail
              go_roundg (g1 - 1)
              case measure => have := HQ1.out; have := HG1.out; omega
              case rel =>
                refine ⟨j + 1, by go_num, by have := HQ1.out; have := HG1.out; omega, fun x hx => ?_, HB2.out⟩
                by_cases h : x < j
                · exact HE1.out x h
                · have h2 : x = j := by omega
                  rw [h2]
                  exact fun y h3 => HE2.out y (by omega)
        · have hi1 : ¬ (j : Int) < (i : Int) := by omega
          go_wp2_with fail
          go_roundg (g0 - 1)
          case measure => have := HQ0.out; have := HG0.out; omega
          case rel =>
            refine ⟨i + 1, by go_num, by have := HQ0.out; have := HG0.out; omega, fun x hx => ?_, HB1.out⟩
            by_cases h : x < i
            · exact HE0.out x h
            · have h2 : x = i := by omega
              rw [h2]
              exact fun y h3 => HE1.out y (by omega)
    · have hi0 : ¬ (i : Int) < (L.length : Int) := by omega
      go_wp2_with fail
      go_ret
      exact ⟨⟨true, rfl, fun _ => fun i2 j2 k2 a1 a2 a3 => HE0.out i2 (by omega) j2 a2 k2 a1, fun _ => rfl⟩, HB0.out⟩

end Go.Proofs.YtblfinpfcpglcaaGreatDoor
