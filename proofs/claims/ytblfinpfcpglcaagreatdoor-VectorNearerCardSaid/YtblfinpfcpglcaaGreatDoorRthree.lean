/- The reference's digits: wide, Of. -/
import Derived.Test.YtblfinpfcpglcaaGreatDoorRtwo
import Derived.Deep.OwnRows
import Derived.Lib.LazyBuf
import Derived.Laws.BytesArg
namespace Go.Proofs.YtblfinpfcpglcaaGreatDoor
open Go.RowKit MLab

theorem info_u8 : (Tryz.prog.info? 5).map (fun i => (i.zero, i.size, i.bytes)) = some (some (.int .u8 0), 1, 1) := by kernel_rfl
theorem size_u8 (w : World) : (Go.sizeOf 5).run Tryz.prog w = .ok 1 w := by kernel_rfl

/-- A row of bytes as a string. -/
theorem conv_row (w : World) (b n cap : Nat) (t : TypeId) (f : Nat → Value) (l : List UInt8) (h : w.rowIs b t n f) (hl : l.length = n) (hf : ∀ i c, l[i]? = some c → f i = .int .u8 (c.toNat : Int)) :
    (convert 162 9 (.slice (some ⟨b, 0, none⟩) n cap)).run Tryz.prog w = .ok (.string ⟨l.toArray⟩) w := by
  have h1 := run_convert_bytes_arg (P := Tryz.prog) w 162 5 Tryz.underlying162 Tryz.underlying5 b 0 n cap (l.map fun c => (c.toNat : Int)) (by rw [List.length_map, hl]) (fun i hi => by
    rw [Nat.zero_add, h.cell hi, Lib.Lz.getD_map]
    have := hf i l[i] (List.getElem?_eq_getElem (by omega))
    rw [this, List.getElem?_eq_getElem (by omega)]; rfl) 9 Tryz.underlying9
  rw [h1, Lib.Lz.strOfNums_map]

theorem below_row {w w' : World} {b n : Nat} {t : TypeId} {f : Nat → Value} {B : Nat} (h : w.rowIs b t n f) (hb : Below B w w') (hB : b < B) : w'.rowIs b t n f := h.of_block (hb.block b hB)

theorem wide_cell {s : ByteArray} {l : List UInt8} {n j i : Nat} {c : UInt8} (hs : s.data.toList = l) (hz : s.size = l.length) (hn : l.length ≤ n) (hj : j = n) (hi : (wideL l n)[i]? = some c) :
    (if n - s.size ≤ i ∧ i < n - s.size + (s.data.toList.map fun x => Value.int .u8 (x.toNat : Int)).length then (s.data.toList.map fun x => Value.int .u8 (x.toNat : Int))[i - (n - s.size)]?.getD default else (if i < j then .int .u8 48 else .int .u8 0)) = Value.int .u8 (c.toNat : Int) := by
  have hin : i < n := by
    have : i < (wideL l n).length := by
      rcases Nat.lt_or_ge i (wideL l n).length with h | h
      · exact h
      · rw [List.getElem?_eq_none h] at hi; cases hi
    rwa [wideL_length hn] at this
  rw [hs, List.length_map]
  rw [wideL] at hi
  by_cases h : n - s.size ≤ i
  · rw [if_pos ⟨h, by omega⟩, List.getElem?_map]
    rw [List.getElem?_append_right (by rw [List.length_replicate]; omega), List.length_replicate, ← hz] at hi
    rw [hi]; rfl
  · rw [if_neg (fun h2 => h h2.1), if_pos (by omega)]
    rw [List.getElem?_append_left (by rw [List.length_replicate]; omega), List.getElem?_replicate, if_pos (by omega)] at hi
    rw [← Option.some.inj hi]; rfl

set_option maxRecDepth 100000 in
set_option maxHeartbeats 2000000 in
theorem rwide_any (w : World) (s : ByteArray) (l : List UInt8) (n : Nat) (hl : s.data.toList = l) (hne : l ≠ []) (hn : l.length ≤ n) (hN : n ≤ 1000000000000) :
    Calls Tryz.prog 203 #[.string s, .int .i64 (n : Int)] w fun e w' => e = .returned (.string ⟨(wideL l n).toArray⟩) ∧ Below w.heap.size w w' := by
  have hmk := run_make_row' (P := Tryz.prog) 162 5 (.int .u8 0) 1 Tryz.underlying162 info_u8 rfl .i64 .i64 n (by omega) (by omega)
  have HL := hide hl
  have hsz : s.size = l.length := by rw [Lib.size_eq, hl]
  have hpos : 0 < l.length := List.length_pos_iff.2 hne
  have hsp : 0 < s.size := by omega
  have hsn : s.size ≤ n := by omega
  have HSZ := hide hsz
  clear hl hne hsz
  go_enter Tryz.func203, Tryz.ntmps203
  go_wp2_with fail
  have hrow := World.rowIs_made w (.int .u8 0) n 5
  have hbl : Below w.heap.size w (w.alloc (.cells (madeCells #[.int .u8 0] n) 5)) := (Below.refl _ _).alloc (Nat.le_refl _) _
  generalize (w.alloc (.cells (madeCells #[.int .u8 0] n) 5)) = w0 at *
  have HROW := hide hrow
  have HBL := hide hbl
  clear hrow hbl hmk
  go_loopg [6] n (fun k i wr => ∃ j : Nat, i = .int .i64 (j : Int) ∧ k + j = n ∧ wr.rowIs w.heap.size 5 n (fun t => if t < j then .int .u8 48 else .int .u8 0) ∧ Below w.heap.size w wr)
  case atStart => exact ⟨0, rfl, rfl, HROW.out.congr (fun i _ => by simp), HBL.out⟩
  case round =>
    obtain ⟨j, rfl, hk, hr, hb⟩ := hrel
    have HR := hide hr
    have HB := hide hb
    have HK := hide hk
    have hjn : j ≤ n := by omega
    clear hr hb hk
    by_cases hlt : j < n
    · have hji : (j : Int) < (n : Int) := by omega
      have hc := HR.out.cell hlt
      have hf := HR.out.frozen j
      go_wp2_with fail
      go_roundg (gk - 1)
      case measure => have := HK.out; omega
      case rel =>
        refine ⟨j + 1, by go_num, by have := HK.out; omega, (HR.out.set j _).congr (fun i hi => ?_), HB.out.setCell (by exact Nat.le_refl _) _⟩
        by_cases e : i = j
        · subst e; simp
        · simp only [if_neg e]
          by_cases h2 : i < j
          · rw [if_pos h2, if_pos (by omega)]
          · rw [if_neg h2, if_neg (by omega)]
    · have hji : ¬ (j : Int) < (n : Int) := by omega
      have hjn2 : j = n := by omega
      have hsub : (n : Int) - (s.size : Int) = ((n - s.size : Nat) : Int) := by omega
      have hne : ¬ n = n - s.size := by omega
      have hle : (n : Int) - (s.size : Int) ≤ (n : Int) := by omega
      have h0 : (0 : Int) ≤ (n : Int) - (s.size : Int) := by omega
      have hts : ((n : Int) - (s.size : Int)).toNat = n - s.size := by omega
      have hcp := fun ty dc => run_copy_string (P := Tryz.prog) wr 162 9 ty 5 w.heap.size (n - s.size) (n - (n - s.size)) dc s Tryz.underlying162 size_u8 (by omega) (fun i hi => by rw [HR.out.cell (i := n - s.size + i) (by omega)]; rfl) (fun i _ => HR.out.frozen _)
      have hrow2 := rowIs_setCells (s.data.toList.map fun x => Value.int .u8 (x.toNat : Int)) (n - s.size) wr _ HR.out
      have hbel2 : Below w.heap.size w (wr.setCells w.heap.size (n - s.size) (s.data.toList.map fun x => Value.int .u8 (x.toNat : Int))) := below_setCells (Nat.le_refl _) _ _ _ HB.out
      have hcv := conv_row _ w.heap.size n n 5 _ (wideL l n) hrow2 (wideL_length hn) (fun i c hi => by
        exact wide_cell (HL.out) HSZ.out hn hjn2 hi)
      have HCV := hide hcv
      clear hrow2 hcv
      have hcv := HCV.out
      clear HCV
      go_wp2_with fail
      go_ret
      exact ⟨rfl, hbel2⟩

/-- 'string([]byte{x})'. -/
theorem conv_one (w : World) (x : Int) (hx : 0 ≤ x) (hx2 : x < 256) :
    (convert 162 9 (.slice (some ⟨w.heap.size, 0, none⟩) 1 1)).run Tryz.prog (w.alloc (.cells #[.int .u8 x] 5)) = .ok (.string ⟨#[UInt8.ofNat x.toNat]⟩) (w.alloc (.cells #[.int .u8 x] 5)) := by
  refine conv_row _ w.heap.size 1 1 5 (fun _ => .int .u8 x) [UInt8.ofNat x.toNat] (World.rowIs_alloc w #[.int .u8 x] 5 _ (fun i hi => ?_)) rfl (fun i c hi => ?_)
  · have : i = 0 := by simp at hi; omega
    subst this; rfl
  · have hi0 : i = 0 := by
      rcases Nat.lt_or_ge i 1 with h | h
      · omega
      · rw [List.getElem?_eq_none (by simpa using h)] at hi; cases hi
    subst hi0
    have hc : UInt8.ofNat x.toNat = c := by simpa using hi
    subst hc
    congr 1
    rw [UInt8.toNat_ofNat']
    omega

theorem Lib_dec_ge {m : Nat} (h : ¬ m < 10) : Lib.decDigits m = Lib.decDigits (m / 10) ++ [UInt8.ofNat (48 + m % 10)] := decDigits_ge h

set_option maxRecDepth 100000 in
set_option maxHeartbeats 2000000 in
theorem rof_pos (n : Nat) (hn : (n : Int) ≤ 9223372036854775807) (w : World) :
    Calls Tryz.prog 96 #[.int .i64 (n : Int)] w fun e w' => e = .returned (.string ⟨(Lib.decDigits n).toArray⟩) ∧ Below w.heap.size w w' := by
  by_cases h0 : n = 0
  · subst h0
    go_enter Tryz.func96, Tryz.ntmps96
    go_wp2_with fail
    go_loopg [0, 3] 0 (fun k v u wr => ∃ (m : Nat) (g : ByteArray), v = .int .i64 (m : Int) ∧ u = .string g ∧ m = k ∧ m ≤ 0 ∧ g.size ≤ 20 ∧ Lib.decDigits 0 = Lib.decDigits m ++ g.data.toList ∧ Below w.heap.size w wr)
    case atStart => exact ⟨0, ⟨#[]⟩, rfl, rfl, rfl, Nat.le_refl _, by decide, by simp, Below.refl _ _⟩
    case round =>
      obtain ⟨m, g, rfl, rfl, hk, hmn, hgs, hd, hb⟩ := hrel
      have HK := hide hk
      have HD := hide hd
      have HB := hide hb
      have hmi : (m : Int) ≤ 9223372036854775807 := by omega
      clear hk hd hb
      by_cases h9 : 9 < m
      · exact absurd h9 (by omega)
      · have h9i : ¬ (9 : Int) < (m : Int) := by omega
        have hx := conv_one wr (48 + (m : Int)) (by omega) (by omega)
        have hch : UInt8.ofNat (48 + (m : Int)).toNat = UInt8.ofNat (48 + m) := by congr 1
        rw [hch] at hx
        obtain ⟨c, hc⟩ : ∃ c, UInt8.ofNat (48 + m) = c := ⟨_, rfl⟩
        rw [hc] at hx
        have hfin : (⟨#[c]⟩ : ByteArray) ++ g = ⟨(Lib.decDigits 0).toArray⟩ := by
          refine ba_eq ?_
          rw [ByteArray.data_append, Array.toList_append, HD.out, decDigits_lt (by omega), hc]
        have HF := hide hfin
        clear hch hfin hc
        go_wp2_with fail
        go_ret
        exact ⟨by rw [← HF.out]; rfl, HB.out.alloc HB.out.size _⟩
  · have hneg : ¬ (n : Int) < 0 := by omega
    have hq : ((n : Int) == -(n : Int)) = false := by rw [beq_eq_false_iff_ne]; omega
    clear h0
    go_enter Tryz.func96, Tryz.ntmps96
    go_wp2_with fail
    go_loopg [0, 3] n (fun k v u wr => ∃ (m : Nat) (g : ByteArray), v = .int .i64 (m : Int) ∧ u = .string g ∧ m = k ∧ m ≤ n ∧ g.size ≤ 20 ∧ Lib.decDigits n = Lib.decDigits m ++ g.data.toList ∧ Below w.heap.size w wr)
    case atStart => exact ⟨n, ⟨#[]⟩, rfl, rfl, rfl, Nat.le_refl _, by decide, by simp, Below.refl _ _⟩
    case round =>
      obtain ⟨m, g, rfl, rfl, hk, hmn, hgs, hd, hb⟩ := hrel
      have HK := hide hk
      have HD := hide hd
      have HB := hide hb
      have hmi : (m : Int) ≤ 9223372036854775807 := by omega
      clear hk hd hb
      by_cases h9 : 9 < m
      · have h9i : (9 : Int) < (m : Int) := by omega
        have hx := conv_one wr (48 + (m : Int) % 10) (by omega) (by omega)
        have hch : UInt8.ofNat (48 + (m : Int) % 10).toNat = UInt8.ofNat (48 + m % 10) := by congr 1
        rw [hch] at hx
        have hg20 : g.size + 1 ≤ 20 := by
          have h1 : (Lib.decDigits n).length ≤ 19 := (dec_length_le (by decide)).2 (by omega)
          have h2 := congrArg List.length HD.out
          rw [List.length_append, ← Lib.size_eq] at h2
          have h3 := dec_length_pos m
          omega
        obtain ⟨c, hc⟩ : ∃ c, UInt8.ofNat (48 + m % 10) = c := ⟨_, rfl⟩
        rw [hc] at hx
        have HC := hide hc
        have hdv : (m : Int) / 10 = ((m / 10 : Nat) : Int) := by omega
        have HDV := hide hdv
        clear hdv hch hc
        go_wp2_with fail
        go_roundg (m / 10)
        case measure => have := HK.out; omega
        case rel =>
          refine ⟨m / 10, (⟨#[c]⟩ : ByteArray) ++ g, by rw [← HDV.out], rfl, rfl, by omega, ?_, ?_, HB.out.alloc HB.out.size _⟩
          · rw [ByteArray.size_append]
            have : (⟨#[c]⟩ : ByteArray).size = 1 := rfl
            omega
          · rw [HD.out, Lib_dec_ge (by omega), HC.out, List.append_assoc, ByteArray.data_append, Array.toList_append]
      · have h9i : ¬ (9 : Int) < (m : Int) := by omega
        have hx := conv_one wr (48 + (m : Int)) (by omega) (by omega)
        have hch : UInt8.ofNat (48 + (m : Int)).toNat = UInt8.ofNat (48 + m) := by congr 1
        rw [hch] at hx
        obtain ⟨c, hc⟩ : ∃ c, UInt8.ofNat (48 + m) = c := ⟨_, rfl⟩
        rw [hc] at hx
        have hfin : (⟨#[c]⟩ : ByteArray) ++ g = ⟨(Lib.decDigits n).toArray⟩ := by
          refine ba_eq ?_
          rw [ByteArray.data_append, Array.toList_append, HD.out, decDigits_lt (by omega), hc]
        have HF := hide hfin
        clear hch hfin hc
        go_wp2_with fail
        go_ret
        exact ⟨by rw [← HF.out]; rfl, HB.out.alloc HB.out.size _⟩

set_option maxRecDepth 100000 in
set_option maxHeartbeats 2000000 in
theorem rof_any (n : Int) (h0 : -9223372036854775808 ≤ n) (h1 : n ≤ 9223372036854775807) (w : World) :
    Calls Tryz.prog 96 #[.int .i64 n] w fun e w' => e = .returned (.string ⟨(T n).toArray⟩) ∧ Below w.heap.size w w' := by
  by_cases hn : n < 0
  · by_cases hm : n = -9223372036854775808
    · subst hm
      have hT : T (-9223372036854775808) = [45, 57, 50, 50, 51, 51, 55, 50, 48, 51, 54, 56, 53, 52, 55, 55, 53, 56, 48, 56] := by kernel_rfl
      have HT := hide hT
      have hw : wrap64 9223372036854775808 = -9223372036854775808 := by unfold wrap64; decide
      clear hT h0 h1 hn
      go_enter Tryz.func96, Tryz.ntmps96
      go_wp2_with fail
      go_ret
      exact ⟨by rw [HT.out]; rfl, Below.refl _ _⟩
    · have hlo : -9223372036854775807 ≤ n := by omega
      have hq : (n == -n) = false := by rw [beq_eq_false_iff_ne]; omega
      have hpos := rof_pos n.natAbs (by omega) w
      rw [show ((n.natAbs : Nat) : Int) = -n by omega] at hpos
      have HP := hide hpos
      have hT : (⟨(Lib.decDigits n.natAbs).toArray⟩ : ByteArray).data.toList = T (-n) := by
        rw [T_nonneg (by omega), show (-n).toNat = n.natAbs by omega]
      have hsz : (⟨(Lib.decDigits n.natAbs).toArray⟩ : ByteArray).size ≤ 1000000000000 := by
        rw [ba_size]
        have : (Lib.decDigits n.natAbs).length ≤ 19 := (dec_length_le (by decide)).2 (by omega)
        omega
      have HT := hide hT
      have HSZ := hide hsz
      clear hm hpos hT hsz
      go_enter Tryz.func96, Tryz.ntmps96
      go_wp2_with fail
      refine HP.out.mono ?_
      rintro e w1 ⟨rfl, hb⟩
      go_wp2_with fail
      refine (rturned_any _ _ _ HT.out HSZ.out).mono ?_
      rintro e w2 ⟨rfl, rfl⟩
      rw [Int.neg_neg]
      go_wp2_with fail
      go_ret
      exact ⟨rfl, hb⟩
  · have := rof_pos n.toNat (by omega) w
    rw [show ((n.toNat : Nat) : Int) = n by omega, show Lib.decDigits n.toNat = T n from (T_nonneg (by omega)).symm] at this
    exact this
end Go.Proofs.YtblfinpfcpglcaaGreatDoor
