/- The reference's digits: wide, Of. The reference's digits: paper. -/
import Derived.Test.YtaccdkbofhlbkaaGreatDoorRone
import Derived.Deep.OwnRows
import Derived.Lib.LazyBuf
import Derived.Laws.BytesArg
namespace Go.Proofs.YtaccdkbofhlbkaaGreatDoor
open Go.RowKit MLab

theorem info_u8 : (Tryz.prog.info? 5).map (fun i => (i.zero, i.size, i.bytes)) = some (some (.int .u8 0), 1, 1) := by kernel_rfl
theorem size_u8 (w : World) : (Go.sizeOf 5).run Tryz.prog w = .ok 1 w := by kernel_rfl

/-- A row of bytes as a string. -/
theorem conv_row (w : World) (b n cap : Nat) (t : TypeId) (f : Nat → Value) (l : List UInt8) (h : w.rowIs b t n f) (hl : l.length = n) (hf : ∀ i c, l[i]? = some c → f i = .int .u8 (c.toNat : Int)) :
    (convert 135 9 (.slice (some ⟨b, 0, none⟩) n cap)).run Tryz.prog w = .ok (.string ⟨l.toArray⟩) w := by
  have h1 := run_convert_bytes_arg (P := Tryz.prog) w 135 5 Tryz.underlying135 Tryz.underlying5 b 0 n cap (l.map fun c => (c.toNat : Int)) (by rw [List.length_map, hl]) (fun i hi => by
    rw [Nat.zero_add, h.cell hi, Lib.Lz.getD_map]
    have := hf i l[i] (List.getElem?_eq_getElem (by omega))
    rw [this, List.getElem?_eq_getElem (by omega)]; rfl) 9 Tryz.underlying9
  rw [h1, Lib.Lz.strOfNums_map]

theorem below_row {w w' : World} {b n : Nat} {t : TypeId} {f : Nat → Value} {B : Nat} (h : w.rowIs b t n f) (hb : Below B w w') (hB : b < B) : w'.rowIs b t n f := h.of_block (hb.block b hB)

theorem wide_cell {s : ByteArray} {l : List UInt8} {n j i : Nat} {c : UInt8} (hs : s.data.toList = l) (hz : s.size = l.length) (hn : l.length ≤ n) (hj : j = n) (hi : (wideL l n)[i]? = some c) :
    (if n - s.size ≤ i ∧ i < n - s.size + (s.data.toList.map fun x => Value.int .u8 (x.toNat : Int)).length then (s.data.toList.map fun x => Value.int .u8 (x.toNat : Int))[i - (n - s.size)]?.getD default else (if i < j then .int .u8 48 else .int .u8 0)) = Value.int .u8 (c.toNat : Int) := by
  have hin : i < n := by
    have : i < (wideL l n).length := by
      rcases Nat.lt_or_ge i (wideL l n).length with h | h
      · exact h
      · rw [List.getElem?_eq_none h] at hi; cases hi
    rwa [wideL_length hn] at this
  rw [hs, List.length_map]
  rw [wideL] at hi
  by_cases h : n - s.size ≤ i
  · rw [if_pos ⟨h, by omega⟩, List.getElem?_map]
    rw [List.getElem?_append_right (by rw [List.length_replicate]; omega), List.length_replicate, ← hz] at hi
    rw [hi]; rfl
  · rw [if_neg (fun h2 => h h2.1), if_pos (by omega)]
    rw [List.getElem?_append_left (by rw [List.length_replicate]; omega), List.getElem?_replicate, if_pos (by omega)] at hi
    rw [← Option.some.inj hi]; rfl

set_option maxRecDepth 100000 in
set_option maxHeartbeats 2000000 in
theorem rwide_any (w : World) (s : ByteArray) (l : List UInt8) (n : Nat) (hl : s.data.toList = l) (hne : l ≠ []) (hn : l.length ≤ n) (hN : n ≤ 1000000000000) :
    Calls Tryz.prog 147 #[.string s, .int .i64 (n : Int)] w fun e w' => e = .returned (.string ⟨(wideL l n).toArray⟩) ∧ Below w.heap.size w w' := by
  have hmk := run_make_row' (P := Tryz.prog) 135 5 (.int .u8 0) 1 Tryz.underlying135 info_u8 rfl .i64 .i64 n (by omega) (by omega)
  have HL := hide hl
  have hsz : s.size = l.length := by rw [Lib.size_eq, hl]
  have hpos : 0 < l.length := List.length_pos_iff.2 hne
  have hsp : 0 < s.size := by omega
  have hsn : s.size ≤ n := by omega
  have HSZ := hide hsz
  clear hl hne hsz
  go_enter Tryz.func147, Tryz.ntmps147
  go_wp2_with fail
  have hrow := World.rowIs_made w (.int .u8 0) n 5
  have hbl : Below w.heap.size w (w.alloc (.cells (madeCells #[.int .u8 0] n) 5)) := (Below.refl _ _).alloc (Nat.le_refl _) _
  generalize (w.alloc (.cells (madeCells #[.int .u8 0] n) 5)) = w0 at *
  have HROW := hide hrow
  have HBL := hide hbl
  clear hrow hbl hmk
  go_loopg [6] n (fun k i wr => ∃ j : Nat, i = .int .i64 (j : Int) ∧ k + j = n ∧ wr.rowIs w.heap.size 5 n (fun t => if t < j then .int .u8 48 else .int .u8 0) ∧ Below w.heap.size w wr)
  case atStart => exact ⟨0, rfl, rfl, HROW.out.congr (fun i _ => by simp), HBL.out⟩
  case round =>
    obtain ⟨j, rfl, hk, hr, hb⟩ := hrel
    have HR := hide hr
    have HB := hide hb
    have HK := hide hk
    have hjn : j ≤ n := by omega
    clear hr hb hk
    by_cases hlt : j < n
    · have hji : (j : Int) < (n : Int) := by omega
      have hc := HR.out.cell hlt
      have hf := HR.out.frozen j
      go_wp2_with fail
      go_roundg (gk - 1)
      case measure => have := HK.out; omega
      case rel =>
        refine ⟨j + 1, by go_num, by have := HK.out; omega, (HR.out.set j _).congr (fun i hi => ?_), HB.out.setCell (by exact Nat.le_refl _) _⟩
        by_cases e : i = j
        · subst e; simp
        · simp only [if_neg e]
          by_cases h2 : i < j
          · rw [if_pos h2, if_pos (by omega)]
          · rw [if_neg h2, if_neg (by omega)]
    · have hji : ¬ (j : Int) < (n : Int) := by omega
      have hjn2 : j = n := by omega
      have hsub : (n : Int) - (s.size : Int) = ((n - s.size : Nat) : Int) := by omega
      have hne : ¬ n = n - s.size := by omega
      have hle : (n : Int) - (s.size : Int) ≤ (n : Int) := by omega
      have h0 : (0 : Int) ≤ (n : Int) - (s.size : Int) := by omega
      have hts : ((n : Int) - (s.size : Int)).toNat = n - s.size := by omega
      have hcp := fun ty dc => run_copy_string (P := Tryz.prog) wr 135 9 ty 5 w.heap.size (n - s.size) (n - (n - s.size)) dc s Tryz.underlying135 size_u8 (by omega) (fun i hi => by rw [HR.out.cell (i := n - s.size + i) (by omega)]; rfl) (fun i _ => HR.out.frozen _)
      have hrow2 := rowIs_setCells (s.data.toList.map fun x => Value.int .u8 (x.toNat : Int)) (n - s.size) wr _ HR.out
      have hbel2 : Below w.heap.size w (wr.setCells w.heap.size (n - s.size) (s.data.toList.map fun x => Value.int .u8 (x.toNat : Int))) := below_setCells (Nat.le_refl _) _ _ _ HB.out
      have hcv := conv_row _ w.heap.size n n 5 _ (wideL l n) hrow2 (wideL_length hn) (fun i c hi => by
        exact wide_cell (HL.out) HSZ.out hn hjn2 hi)
      have HCV := hide hcv
      clear hrow2 hcv
      have hcv := HCV.out
      clear HCV
      go_wp2_with fail
      go_ret
      exact ⟨rfl, hbel2⟩

/-- 'string([]byte{x})'. -/
theorem conv_one (w : World) (x : Int) (hx : 0 ≤ x) (hx2 : x < 256) :
    (convert 135 9 (.slice (some ⟨w.heap.size, 0, none⟩) 1 1)).run Tryz.prog (w.alloc (.cells #[.int .u8 x] 5)) = .ok (.string ⟨#[UInt8.ofNat x.toNat]⟩) (w.alloc (.cells #[.int .u8 x] 5)) := by
  refine conv_row _ w.heap.size 1 1 5 (fun _ => .int .u8 x) [UInt8.ofNat x.toNat] (World.rowIs_alloc w #[.int .u8 x] 5 _ (fun i hi => ?_)) rfl (fun i c hi => ?_)
  · have : i = 0 := by simp at hi; omega
    subst this; rfl
  · have hi0 : i = 0 := by
      rcases Nat.lt_or_ge i 1 with h | h
      · omega
      · rw [List.getElem?_eq_none (by simpa using h)] at hi; cases hi
    subst hi0
    have hc : UInt8.ofNat x.toNat = c := by simpa using hi
    subst hc
    congr 1
    rw [UInt8.toNat_ofNat']
    omega

theorem Lib_dec_ge {m : Nat} (h : ¬ m < 10) : Lib.decDigits m = Lib.decDigits (m / 10) ++ [UInt8.ofNat (48 + m % 10)] := decDigits_ge h

set_option maxRecDepth 100000 in
set_option maxHeartbeats 2000000 in
theorem rof_pos (n : Nat) (hn : (n : Int) ≤ 9223372036854775807) (w : World) :
    Calls Tryz.prog 67 #[.int .i64 (n : Int)] w fun e w' => e = .returned (.string ⟨(Lib.decDigits n).toArray⟩) ∧ Below w.heap.size w w' := by
  by_cases h0 : n = 0
  · subst h0
    go_enter Tryz.func67, Tryz.ntmps67
    go_wp2_with fail
    go_loopg [0, 3] 0 (fun k v u wr => ∃ (m : Nat) (g : ByteArray), v = .int .i64 (m : Int) ∧ u = .string g ∧ m = k ∧ m ≤ 0 ∧ g.size ≤ 20 ∧ Lib.decDigits 0 = Lib.decDigits m ++ g.data.toList ∧ Below w.heap.size w wr)
    case atStart => exact ⟨0, ⟨#[]⟩, rfl, rfl, rfl, Nat.le_refl _, by decide, by simp, Below.refl _ _⟩
    case round =>
      obtain ⟨m, g, rfl, rfl, hk, hmn, hgs, hd, hb⟩ := hrel
      have HK := hide hk
      have HD := hide hd
      have HB := hide hb
      have hmi : (m : Int) ≤ 9223372036854775807 := by omega
      clear hk hd hb
      by_cases h9 : 9 < m
      · exact absurd h9 (by omega)
      · have h9i : ¬ (9 : Int) < (m : Int) := by omega
        have hx := conv_one wr (48 + (m : Int)) (by omega) (by omega)
        have hch : UInt8.ofNat (48 + (m : Int)).toNat = UInt8.ofNat (48 + m) := by congr 1
        rw [hch] at hx
        obtain ⟨c, hc⟩ : ∃ c, UInt8.ofNat (48 + m) = c := ⟨_, rfl⟩
        rw [hc] at hx
        have hfin : (⟨#[c]⟩ : ByteArray) ++ g = ⟨(Lib.decDigits 0).toArray⟩ := by
          refine ba_eq ?_
          rw [ByteArray.data_append, Array.toList_append, HD.out, decDigits_lt (by omega), hc]
        have HF := hide hfin
        clear hch hfin hc
        go_wp2_with fail
        go_ret
        exact ⟨by rw [← HF.out]; rfl, HB.out.alloc HB.out.size _⟩
  · have hneg : ¬ (n : Int) < 0 := by omega
    have hq : ((n : Int) == -(n : Int)) = false := by rw [beq_eq_false_iff_ne]; omega
    clear h0
    go_enter Tryz.func67, Tryz.ntmps67
    go_wp2_with fail
    go_loopg [0, 3] n (fun k v u wr => ∃ (m : Nat) (g : ByteArray), v = .int .i64 (m : Int) ∧ u = .string g ∧ m = k ∧ m ≤ n ∧ g.size ≤ 20 ∧ Lib.decDigits n = Lib.decDigits m ++ g.data.toList ∧ Below w.heap.size w wr)
    case atStart => exact ⟨n, ⟨#[]⟩, rfl, rfl, rfl, Nat.le_refl _, by decide, by simp, Below.refl _ _⟩
    case round =>
      obtain ⟨m, g, rfl, rfl, hk, hmn, hgs, hd, hb⟩ := hrel
      have HK := hide hk
      have HD := hide hd
      have HB := hide hb
      have hmi : (m : Int) ≤ 9223372036854775807 := by omega
      clear hk hd hb
      by_cases h9 : 9 < m
      · have h9i : (9 : Int) < (m : Int) := by omega
        have hx := conv_one wr (48 + (m : Int) % 10) (by omega) (by omega)
        have hch : UInt8.ofNat (48 + (m : Int) % 10).toNat = UInt8.ofNat (48 + m % 10) := by congr 1
        rw [hch] at hx
        have hg20 : g.size + 1 ≤ 20 := by
          have h1 : (Lib.decDigits n).length ≤ 19 := (dec_length_le (by decide)).2 (by omega)
          have h2 := congrArg List.length HD.out
          rw [List.length_append, ← Lib.size_eq] at h2
          have h3 := dec_length_pos m
          omega
        obtain ⟨c, hc⟩ : ∃ c, UInt8.ofNat (48 + m % 10) = c := ⟨_, rfl⟩
        rw [hc] at hx
        have HC := hide hc
        have hdv : (m : Int) / 10 = ((m / 10 : Nat) : Int) := by omega
        have HDV := hide hdv
        clear hdv hch hc
        go_wp2_with fail
        go_roundg (m / 10)
        case measure => have := HK.out; omega
        case rel =>
          refine ⟨m / 10, (⟨#[c]⟩ : ByteArray) ++ g, by rw [← HDV.out], rfl, rfl, by omega, ?_, ?_, HB.out.alloc HB.out.size _⟩
          · rw [ByteArray.size_append]
            have : (⟨#[c]⟩ : ByteArray).size = 1 := rfl
            omega
          · rw [HD.out, Lib_dec_ge (by omega), HC.out, List.append_assoc, ByteArray.data_append, Array.toList_append]
      · have h9i : ¬ (9 : Int) < (m : Int) := by omega
        have hx := conv_one wr (48 + (m : Int)) (by omega) (by omega)
        have hch : UInt8.ofNat (48 + (m : Int)).toNat = UInt8.ofNat (48 + m) := by congr 1
        rw [hch] at hx
        obtain ⟨c, hc⟩ : ∃ c, UInt8.ofNat (48 + m) = c := ⟨_, rfl⟩
        rw [hc] at hx
        have hfin : (⟨#[c]⟩ : ByteArray) ++ g = ⟨(Lib.decDigits n).toArray⟩ := by
          refine ba_eq ?_
          rw [ByteArray.data_append, Array.toList_append, HD.out, decDigits_lt (by omega), hc]
        have HF := hide hfin
        clear hch hfin hc
        go_wp2_with fail
        go_ret
        exact ⟨by rw [← HF.out]; rfl, HB.out.alloc HB.out.size _⟩

set_option maxRecDepth 100000 in
set_option maxHeartbeats 2000000 in
theorem rof_any (n : Int) (h0 : -9223372036854775808 ≤ n) (h1 : n ≤ 9223372036854775807) (w : World) :
    Calls Tryz.prog 67 #[.int .i64 n] w fun e w' => e = .returned (.string ⟨(T n).toArray⟩) ∧ Below w.heap.size w w' := by
  by_cases hn : n < 0
  · by_cases hm : n = -9223372036854775808
    · subst hm
      have hT : T (-9223372036854775808) = [45, 57, 50, 50, 51, 51, 55, 50, 48, 51, 54, 56, 53, 52, 55, 55, 53, 56, 48, 56] := by kernel_rfl
      have HT := hide hT
      have hw : wrap64 9223372036854775808 = -9223372036854775808 := by unfold wrap64; decide
      clear hT h0 h1 hn
      go_enter Tryz.func67, Tryz.ntmps67
      go_wp2_with fail
      go_ret
      exact ⟨by rw [HT.out]; rfl, Below.refl _ _⟩
    · have hlo : -9223372036854775807 ≤ n := by omega
      have hq : (n == -n) = false := by rw [beq_eq_false_iff_ne]; omega
      have hpos := rof_pos n.natAbs (by omega) w
      rw [show ((n.natAbs : Nat) : Int) = -n by omega] at hpos
      have HP := hide hpos
      have hT : (⟨(Lib.decDigits n.natAbs).toArray⟩ : ByteArray).data.toList = T (-n) := by
        rw [T_nonneg (by omega), show (-n).toNat = n.natAbs by omega]
      have hsz : (⟨(Lib.decDigits n.natAbs).toArray⟩ : ByteArray).size ≤ 1000000000000 := by
        rw [ba_size]
        have : (Lib.decDigits n.natAbs).length ≤ 19 := (dec_length_le (by decide)).2 (by omega)
        omega
      have HT := hide hT
      have HSZ := hide hsz
      clear hm hpos hT hsz
      go_enter Tryz.func67, Tryz.ntmps67
      go_wp2_with fail
      refine HP.out.mono ?_
      rintro e w1 ⟨rfl, hb⟩
      go_wp2_with fail
      refine (rturned_any _ _ _ HT.out HSZ.out).mono ?_
      rintro e w2 ⟨rfl, rfl⟩
      rw [Int.neg_neg]
      go_wp2_with fail
      go_ret
      exact ⟨rfl, hb⟩
  · have := rof_pos n.toNat (by omega) w
    rw [show ((n.toNat : Nat) : Int) = n by omega, show Lib.decDigits n.toNat = T n from (T_nonneg (by omega)).symm] at this
    exact this
end Go.Proofs.YtaccdkbofhlbkaaGreatDoor

namespace Go.Proofs.YtaccdkbofhlbkaaGreatDoor
open Go.RowKit MLab

/-- The byte number i of digits, as the row holds it. -/
def dcell (d : Nat → Nat) (i : Nat) : Value := .int .u8 ((48 + d i : Nat) : Int)

/-- What paper keeps: from place i on the digits e of the result, the carry c; x, y: the digits of the arguments. -/
def Sum (n : Nat) (x y e : Nat → Nat) (i c : Nat) : Prop := dval e i (n - i) + c * 10 ^ (n - i) = dval x i (n - i) + dval y i (n - i)
def Dif (n : Nat) (x y e : Nat → Nat) (i c : Nat) : Prop := dval e i (n - i) + dval y i (n - i) = dval x i (n - i) + c * 10 ^ (n - i)

theorem dval_upd {e : Nat → Nat} {i j v : Nat} (h : i < j) (k : Nat) : dval (upd e i v) j k = dval e j k :=
  dval_congr k j fun t ht _ => upd_other e v (by omega)
theorem Sum.step {n i c d : Nat} {x y e : Nat → Nat} (h : Sum n x y e (i + 1) c) (hi : i < n) (hd : d = (x i + y i + c) % 10) : Sum n x y (upd e i d) i ((x i + y i + c) / 10) := by
  unfold Sum at *
  rw [show n - i = (n - (i + 1)) + 1 by omega, dval, dval, dval, dval_upd (by omega), upd_same, Nat.pow_succ]
  generalize dval e (i + 1) (n - (i + 1)) = A at *
  generalize dval x (i + 1) (n - (i + 1)) = B at *
  generalize dval y (i + 1) (n - (i + 1)) = C at *
  generalize 10 ^ (n - (i + 1)) = P at *
  have hdm := Nat.div_add_mod (x i + y i + c) 10
  rw [← hd] at hdm
  generalize (x i + y i + c) / 10 = q at *
  have h2 : (10 * q + d) * P = (x i + y i + c) * P := by rw [hdm]
  simp only [Nat.add_mul] at h2
  have e1 : q * (P * 10) = 10 * q * P := by rw [Nat.mul_comm P 10, ← Nat.mul_assoc, Nat.mul_comm q 10]
  rw [e1]
  omega
theorem Dif.step {n i c d b : Nat} {x y e : Nat → Nat} (h : Dif n x y e (i + 1) c) (hi : i < n) (hd : d + y i + c = x i + 10 * b) : Dif n x y (upd e i d) i b := by
  unfold Dif at *
  rw [show n - i = (n - (i + 1)) + 1 by omega, dval, dval, dval, dval_upd (by omega), upd_same, Nat.pow_succ]
  generalize dval e (i + 1) (n - (i + 1)) = A at *
  generalize dval x (i + 1) (n - (i + 1)) = B at *
  generalize dval y (i + 1) (n - (i + 1)) = C at *
  generalize 10 ^ (n - (i + 1)) = P at *
  have h2 : (d + y i + c) * P = (x i + 10 * b) * P := by rw [hd]
  simp only [Nat.add_mul] at h2
  have e1 : b * (P * 10) = 10 * b * P := by rw [Nat.mul_comm P 10, ← Nat.mul_assoc, Nat.mul_comm b 10]
  rw [e1]
  omega

theorem upd_cell {d : Nat → Nat} {i v j n : Nat} {f : Nat → Value} (hf : ∀ t, t < n → i < t → f t = dcell d t) (h1 : i ≤ j) (h2 : j < n) :
    (if j = i then dcell (fun _ => v) i else f j) = dcell (upd d i v) j := by
  by_cases e : j = i
  · subst e; rw [if_pos rfl]; simp [dcell, upd_same]
  · rw [if_neg e, hf j h2 (by omega)]; simp [dcell, upd_other d v e]

set_option maxRecDepth 100000 in
set_option maxHeartbeats 4000000 in
theorem rpaper_add (w : World) (s t : ByteArray) (m k : Nat) (hs : s.data.toList = Lib.decDigits m) (ht : t.data.toList = Lib.decDigits k) (hsz : s.size ≤ 1000000) (htz : t.size ≤ 1000000) :
    Calls Tryz.prog 126 #[.string s, .string t, .bool true] w fun e w' => e = .returned (.string ⟨(Lib.decDigits (m + k)).toArray⟩) ∧ Below w.heap.size w w' := by
  obtain ⟨n, hn⟩ : ∃ n : Nat, n = max s.size t.size + 1 := ⟨_, rfl⟩
  have hn1 : s.size < n := by omega
  have hn2 : t.size < n := by omega
  have hnz : n ≤ 1000001 := by omega
  have hmx : max (s.size : Int) (t.size : Int) + 1 = (n : Int) := by omega
  have HS := hide hs
  have HT := hide ht
  have HMX := hide hmx
  have s1 : (Lib.decDigits m).length < n := by rw [← hs, ← Lib.size_eq]; exact hn1
  have s2 : (Lib.decDigits k).length < n := by rw [← ht, ← Lib.size_eq]; exact hn2
  clear hs ht hn hmx
  go_enter Tryz.func126, Tryz.ntmps126
  go_wp2_with fail
  rw [HMX.out]
  refine (rwide_any _ s _ n HS.out (dec_ne m) (by omega) (by omega)).mono ?_
  rintro e w1 ⟨rfl, hb1⟩
  have ha1 : (⟨(wideL (Lib.decDigits m) n).toArray⟩ : ByteArray).size = n := by rw [ba_size, wideL_length (by omega)]
  have ha2 : (⟨(wideL (Lib.decDigits m) n).toArray⟩ : ByteArray).data.toList = wideL (Lib.decDigits m) n := rfl
  generalize (⟨(wideL (Lib.decDigits m) n).toArray⟩ : ByteArray) = a at *
  have HA1 := hide ha1
  have HA2 := hide ha2
  have HB1 := hide hb1
  clear ha1 ha2 hb1
  go_wp2_with fail
  refine (rwide_any _ t _ n HT.out (dec_ne k) (by omega) (by omega)).mono ?_
  rintro e w2 ⟨rfl, hb2⟩
  have hb1' : (⟨(wideL (Lib.decDigits k) n).toArray⟩ : ByteArray).size = n := by rw [ba_size, wideL_length (by omega)]
  have hb2' : (⟨(wideL (Lib.decDigits k) n).toArray⟩ : ByteArray).data.toList = wideL (Lib.decDigits k) n := rfl
  generalize (⟨(wideL (Lib.decDigits k) n).toArray⟩ : ByteArray) = b at *
  have HC1 := hide hb1'
  have HC2 := hide hb2'
  have HB2 := hide (HB1.out.trans (hb2.mono HB1.out.size))
  clear hb1' hb2' hb2 HB1
  have hmk := run_make_row' (P := Tryz.prog) 135 5 (.int .u8 0) 1 Tryz.underlying135 info_u8 rfl .i64 .i64 n (by omega) (by omega)
  go_wp2_with fail
  have hrow := World.rowIs_made w2 (.int .u8 0) n 5
  have hbl : Below w.heap.size w (w2.alloc (.cells (madeCells #[.int .u8 0] n) 5)) := HB2.out.alloc HB2.out.size _
  have hle : w.heap.size ≤ w2.heap.size := HB2.out.size
  generalize (w2.alloc (.cells (madeCells #[.int .u8 0] n) 5)) = w0 at *
  have HROW := hide hrow
  have HBL := hide hbl
  clear hrow hbl hmk
  have hda : Dig (wideL (Lib.decDigits m) n) := wideL_dig (dec_dig m) n
  have hdb : Dig (wideL (Lib.decDigits k) n) := wideL_dig (dec_dig k) n
  have HDA := hide hda
  have HDB := hide hdb
  have hla : (wideL (Lib.decDigits m) n).length = n := wideL_length (by omega)
  have hlb : (wideL (Lib.decDigits k) n).length = n := wideL_length (by omega)
  have HLA := hide hla
  have HLB := hide hlb
  clear hda hdb hla hlb
  generalize hx : wideL (Lib.decDigits m) n = X at *
  generalize hy : wideL (Lib.decDigits k) n = Y at *
  have HX := hide hx
  have HY := hide hy
  clear hx hy
  go_loopg [9, 10] n (fun q cv iv wr => ∃ (c : Nat) (e : Nat → Nat), cv = .int .i64 (c : Int) ∧ iv = .int .i64 ((q : Int) - 1) ∧ q ≤ n ∧ c ≤ 1 ∧ (∀ i, i < n → e i ≤ 9) ∧ wr.rowIs w2.heap.size 5 n (fun i => if i < q then .int .u8 0 else dcell e i) ∧ Sum n (dg X) (dg Y) e q c ∧ Below w.heap.size w wr)
  case atStart =>
    refine ⟨0, fun _ => 0, rfl, rfl, Nat.le_refl _, by decide, fun _ _ => Nat.zero_le _, HROW.out.congr (fun i hi => by simp [hi]), ?_, HBL.out⟩
    unfold Sum
    rw [Nat.sub_self]; rfl
  case round =>
    obtain ⟨c, e, rfl, rfl, hq, hc, he, hr, hp, hb⟩ := hrel
    have HE := hide he
    have HR := hide hr
    have HP := hide hp
    have HB := hide hb
    clear he hr hp hb
    cases gk with
    | zero =>
      have h0 : ¬ (0 : Int) ≤ ((0 : Nat) : Int) - 1 := by omega
      have hrow : wr.rowIs w2.heap.size 5 n (fun i => dcell e i) := HR.out.congr (fun i hi => by simp)
      have hcv := conv_row wr w2.heap.size n n 5 _ (drow e n) hrow (drow_length e n) (fun i c hi => by
        have hin : i < n := by
          rcases Nat.lt_or_ge i n with h | h
          · exact h
          · rw [List.getElem?_eq_none (by rw [drow_length]; exact h)] at hi; cases hi
        rw [drow_at e hin] at hi
        rw [← Option.some.inj hi, ofNat_toNat (by have := HE.out i hin; omega)]; rfl)
      have hdr : Dig (drow e n) := drow_dig HE.out
      have hdl : (drow e n).length = n := drow_length e n
      have hvd : val (drow e n) = m + k := by
        have h1 := HP.out
        unfold Sum at h1
        rw [Nat.sub_zero, dval_drop (l := X) n 0 (by rw [HLA.out]; omega), dval_drop (l := Y) n 0 (by rw [HLB.out]; omega), List.drop_zero, List.drop_zero, ← HX.out, ← HY.out, val_wideL, val_wideL, val_dec, val_dec] at h1
        rw [val_drow HE.out]
        have hlt : dval e 0 n < 10 ^ n := by
          have := val_lt hdr
          rw [val_drow HE.out, hdl] at this
          exact this
        have hm : m < 10 ^ n := Nat.lt_of_lt_of_le ((dec_length_le (dec_length_pos m)).1 (Nat.le_refl _)) (Nat.pow_le_pow_right (by decide) (by omega))
        have hk : k < 10 ^ n := Nat.lt_of_lt_of_le ((dec_length_le (dec_length_pos k)).1 (Nat.le_refl _)) (Nat.pow_le_pow_right (by decide) (by omega))
        have hc01 : c = 0 ∨ c = 1 := by omega
        have hmn : m < 10 ^ (n - 1) := Nat.lt_of_lt_of_le ((dec_length_le (dec_length_pos m)).1 (Nat.le_refl _)) (Nat.pow_le_pow_right (by decide) (by omega))
        have hkn : k < 10 ^ (n - 1) := Nat.lt_of_lt_of_le ((dec_length_le (dec_length_pos k)).1 (Nat.le_refl _)) (Nat.pow_le_pow_right (by decide) (by omega))
        have hpn : 10 ^ n = 10 * 10 ^ (n - 1) := by rw [Nat.mul_comm, ← Nat.pow_succ, Nat.succ_eq_add_one, Nat.sub_add_cancel (by omega)]
        rcases hc01 with rfl | rfl <;> omega
      have hne : drow e n ≠ [] := by rw [← List.length_pos_iff, hdl]; omega
      have hsz2 : (⟨(drow e n).toArray⟩ : ByteArray).size ≤ 1000000000000 := by rw [ba_size, hdl]; omega
      have HV := hide hvd
      have HDR := hide hdr
      have HNE := hide hne
      have HCV := hide hcv
      clear hrow hdr hdl hvd hne hcv
      have hcv := HCV.out
      clear HCV
      go_wp2_with fail
      refine (rbare_any _ _ (drow e n) rfl HDR.out HNE.out hsz2).mono ?_
      rintro e' w3 ⟨rfl, rfl⟩
      rw [HV.out]
      clear hcv
      go_wp2_with fail
      go_ret
      exact ⟨rfl, HB.out⟩
    | succ j =>
      have hij : ((j + 1 : Nat) : Int) - 1 = (j : Int) := by omega
      rw [hij]
      clear hij
      have hjn : j < n := by omega
      have hji : (0 : Int) ≤ (j : Int) := by omega
      have hja : j < a.size := by rw [HA1.out]; exact hjn
      have hjb : j < b.size := by rw [HC1.out]; exact hjn
      have hja2 : (j : Int) < (a.size : Int) := by omega
      have hjb2 : (j : Int) < (b.size : Int) := by omega
      have hjn2 : (j : Int) < (n : Int) := by omega
      have eA : ((a[j]'hja).toNat : Int) = ((48 + dg X j : Nat) : Int) := by
        have h2 : a.data.toList[j]? = X[j]? := by rw [HA2.out]
        rw [List.getElem?_eq_getElem (by rw [← Lib.size_eq]; exact hja), List.getElem?_eq_getElem (by rw [HLA.out]; exact hjn)] at h2
        have h3 := HDA.out (X[j]'(by rw [HLA.out]; exact hjn)) (List.getElem_mem _)
        rw [dg_at (by rw [HLA.out]; exact hjn), ← Option.some.inj h2]
        rw [← Option.some.inj h2] at h3
        have h4 : (a[j]'hja) = a.data.toList[j]'(by rw [← Lib.size_eq]; exact hja) := rfl
        rw [h4]; omega
      have eB : ((b[j]'hjb).toNat : Int) = ((48 + dg Y j : Nat) : Int) := by
        have h2 : b.data.toList[j]? = Y[j]? := by rw [HC2.out]
        rw [List.getElem?_eq_getElem (by rw [← Lib.size_eq]; exact hjb), List.getElem?_eq_getElem (by rw [HLB.out]; exact hjn)] at h2
        have h3 := HDB.out (Y[j]'(by rw [HLB.out]; exact hjn)) (List.getElem_mem _)
        rw [dg_at (by rw [HLB.out]; exact hjn), ← Option.some.inj h2]
        rw [← Option.some.inj h2] at h3
        have h4 : (b[j]'hjb) = b.data.toList[j]'(by rw [← Lib.size_eq]; exact hjb) := rfl
        rw [h4]; omega
      have dA := dg_lt HDA.out j
      have dB := dg_lt HDB.out j
      have EA := hide eA
      have EB := hide eB
      have a1 : (48 : Int) ≤ ((a[j]'hja).toNat : Int) := by omega
      have a2 : ((a[j]'hja).toNat : Int) ≤ 57 := by omega
      have b1 : (48 : Int) ≤ ((b[j]'hjb).toNat : Int) := by omega
      have b2 : ((b[j]'hjb).toNat : Int) ≤ 57 := by omega
      clear eA eB
      have hcell := HR.out.cell hjn
      have hfz := HR.out.frozen j
      go_wp2_with fail
      go_region_with (go_at_call 148; refine (rcol_add _ ((a[j]'hja).toNat : Int) ((b[j]'hjb).toNat : Int) (c : Int) a1 a2 b1 b2 (by omega) (by omega)).mono ?_; rintro e' w3 ⟨rfl, rfl⟩)
      all_goals
        go_wp2_with fail
        go_roundg j
        case measure => omega
        case rel =>
          obtain ⟨d, hd⟩ : ∃ d : Nat, (d : Int) = (((a[j]'hja).toNat : Int) - 48 + (((b[j]'hjb).toNat : Int) - 48) + (c : Int)) % 10 := ⟨((((a[j]'hja).toNat : Int) - 48 + (((b[j]'hjb).toNat : Int) - 48) + (c : Int)) % 10).toNat, by omega⟩
          obtain ⟨c', hc'⟩ : ∃ c' : Nat, (c' : Int) = (((a[j]'hja).toNat : Int) - 48 + (((b[j]'hjb).toNat : Int) - 48) + (c : Int)) / 10 := ⟨((((a[j]'hja).toNat : Int) - 48 + (((b[j]'hjb).toNat : Int) - 48) + (c : Int)) / 10).toNat, by have := EA.out; have := EB.out; omega⟩
          have e1 := EA.out
          have e2 := EB.out
          refine ⟨c', upd e j d, by rw [hc'], by go_num, by omega, by omega, ?_, ?_, ?_, ?_⟩
          · intro i hi
            by_cases h : i = j
            · subst h; rw [upd_same]; omega
            · rw [upd_other e d h]; exact HE.out i hi
          · refine (HR.out.set j _).congr (fun i hi => ?_)
            by_cases h : i = j
            · subst h
              simp only [if_true, Nat.lt_irrefl, if_false, dcell, upd_same]
              congr 1
              omega
            · simp only [if_neg h]
              by_cases h2 : i < j
              · rw [if_pos (show i < j + 1 by omega), if_pos h2]
              · rw [if_neg (show ¬ i < j + 1 by omega), if_neg h2]; simp only [dcell, upd_other e d h]
          · have hst := Sum.step (d := d) HP.out hjn (by omega)
            rw [show (dg X j + dg Y j + c) / 10 = c' by omega] at hst
            exact hst
          · exact HB.out.drew.setCell hle _

set_option maxRecDepth 100000 in
set_option maxHeartbeats 4000000 in
theorem rpaper_sub (w : World) (s t : ByteArray) (m k : Nat) (hs : s.data.toList = Lib.decDigits m) (ht : t.data.toList = Lib.decDigits k) (hsz : s.size ≤ 1000000) (htz : t.size ≤ 1000000) (hkm : k ≤ m) :
    Calls Tryz.prog 126 #[.string s, .string t, .bool false] w fun e w' => e = .returned (.string ⟨(Lib.decDigits (m - k)).toArray⟩) ∧ Below w.heap.size w w' := by
  obtain ⟨n, hn⟩ : ∃ n : Nat, n = max s.size t.size + 1 := ⟨_, rfl⟩
  have hn1 : s.size < n := by omega
  have hn2 : t.size < n := by omega
  have hnz : n ≤ 1000001 := by omega
  have hmx : max (s.size : Int) (t.size : Int) + 1 = (n : Int) := by omega
  have HS := hide hs
  have HT := hide ht
  have HMX := hide hmx
  have s1 : (Lib.decDigits m).length < n := by rw [← hs, ← Lib.size_eq]; exact hn1
  have s2 : (Lib.decDigits k).length < n := by rw [← ht, ← Lib.size_eq]; exact hn2
  clear hs ht hn hmx
  go_enter Tryz.func126, Tryz.ntmps126
  go_wp2_with fail
  rw [HMX.out]
  refine (rwide_any _ s _ n HS.out (dec_ne m) (by omega) (by omega)).mono ?_
  rintro e w1 ⟨rfl, hb1⟩
  have ha1 : (⟨(wideL (Lib.decDigits m) n).toArray⟩ : ByteArray).size = n := by rw [ba_size, wideL_length (by omega)]
  have ha2 : (⟨(wideL (Lib.decDigits m) n).toArray⟩ : ByteArray).data.toList = wideL (Lib.decDigits m) n := rfl
  generalize (⟨(wideL (Lib.decDigits m) n).toArray⟩ : ByteArray) = a at *
  have HA1 := hide ha1
  have HA2 := hide ha2
  have HB1 := hide hb1
  clear ha1 ha2 hb1
  go_wp2_with fail
  refine (rwide_any _ t _ n HT.out (dec_ne k) (by omega) (by omega)).mono ?_
  rintro e w2 ⟨rfl, hb2⟩
  have hb1' : (⟨(wideL (Lib.decDigits k) n).toArray⟩ : ByteArray).size = n := by rw [ba_size, wideL_length (by omega)]
  have hb2' : (⟨(wideL (Lib.decDigits k) n).toArray⟩ : ByteArray).data.toList = wideL (Lib.decDigits k) n := rfl
  generalize (⟨(wideL (Lib.decDigits k) n).toArray⟩ : ByteArray) = b at *
  have HC1 := hide hb1'
  have HC2 := hide hb2'
  have HB2 := hide (HB1.out.trans (hb2.mono HB1.out.size))
  clear hb1' hb2' hb2 HB1
  have hmk := run_make_row' (P := Tryz.prog) 135 5 (.int .u8 0) 1 Tryz.underlying135 info_u8 rfl .i64 .i64 n (by omega) (by omega)
  go_wp2_with fail
  have hrow := World.rowIs_made w2 (.int .u8 0) n 5
  have hbl : Below w.heap.size w (w2.alloc (.cells (madeCells #[.int .u8 0] n) 5)) := HB2.out.alloc HB2.out.size _
  have hle : w.heap.size ≤ w2.heap.size := HB2.out.size
  generalize (w2.alloc (.cells (madeCells #[.int .u8 0] n) 5)) = w0 at *
  have HROW := hide hrow
  have HBL := hide hbl
  clear hrow hbl hmk
  have hda : Dig (wideL (Lib.decDigits m) n) := wideL_dig (dec_dig m) n
  have hdb : Dig (wideL (Lib.decDigits k) n) := wideL_dig (dec_dig k) n
  have HDA := hide hda
  have HDB := hide hdb
  have hla : (wideL (Lib.decDigits m) n).length = n := wideL_length (by omega)
  have hlb : (wideL (Lib.decDigits k) n).length = n := wideL_length (by omega)
  have HLA := hide hla
  have HLB := hide hlb
  clear hda hdb hla hlb
  generalize hx : wideL (Lib.decDigits m) n = X at *
  generalize hy : wideL (Lib.decDigits k) n = Y at *
  have HX := hide hx
  have HY := hide hy
  clear hx hy
  go_loopg [9, 10] n (fun q cv iv wr => ∃ (c : Nat) (e : Nat → Nat), cv = .int .i64 (c : Int) ∧ iv = .int .i64 ((q : Int) - 1) ∧ q ≤ n ∧ c ≤ 1 ∧ (∀ i, i < n → e i ≤ 9) ∧ wr.rowIs w2.heap.size 5 n (fun i => if i < q then .int .u8 0 else dcell e i) ∧ Dif n (dg X) (dg Y) e q c ∧ Below w.heap.size w wr)
  case atStart =>
    refine ⟨0, fun _ => 0, rfl, rfl, Nat.le_refl _, by decide, fun _ _ => Nat.zero_le _, HROW.out.congr (fun i hi => by simp [hi]), ?_, HBL.out⟩
    unfold Dif
    rw [Nat.sub_self]; rfl
  case round =>
    obtain ⟨c, e, rfl, rfl, hq, hc, he, hr, hp, hb⟩ := hrel
    have HE := hide he
    have HR := hide hr
    have HP := hide hp
    have HB := hide hb
    clear he hr hp hb
    cases gk with
    | zero =>
      have h0 : ¬ (0 : Int) ≤ ((0 : Nat) : Int) - 1 := by omega
      have hrow : wr.rowIs w2.heap.size 5 n (fun i => dcell e i) := HR.out.congr (fun i hi => by simp)
      have hcv := conv_row wr w2.heap.size n n 5 _ (drow e n) hrow (drow_length e n) (fun i c hi => by
        have hin : i < n := by
          rcases Nat.lt_or_ge i n with h | h
          · exact h
          · rw [List.getElem?_eq_none (by rw [drow_length]; exact h)] at hi; cases hi
        rw [drow_at e hin] at hi
        rw [← Option.some.inj hi, ofNat_toNat (by have := HE.out i hin; omega)]; rfl)
      have hdr : Dig (drow e n) := drow_dig HE.out
      have hdl : (drow e n).length = n := drow_length e n
      have hvd : val (drow e n) = m - k := by
        have h1 := HP.out
        unfold Dif at h1
        rw [Nat.sub_zero, dval_drop (l := X) n 0 (by rw [HLA.out]; omega), dval_drop (l := Y) n 0 (by rw [HLB.out]; omega), List.drop_zero, List.drop_zero, ← HX.out, ← HY.out, val_wideL, val_wideL, val_dec, val_dec] at h1
        rw [val_drow HE.out]
        have hlt : dval e 0 n < 10 ^ n := by
          have := val_lt hdr
          rw [val_drow HE.out, hdl] at this
          exact this
        have hm : m < 10 ^ n := Nat.lt_of_lt_of_le ((dec_length_le (dec_length_pos m)).1 (Nat.le_refl _)) (Nat.pow_le_pow_right (by decide) (by omega))
        have hk : k < 10 ^ n := Nat.lt_of_lt_of_le ((dec_length_le (dec_length_pos k)).1 (Nat.le_refl _)) (Nat.pow_le_pow_right (by decide) (by omega))
        have hc01 : c = 0 ∨ c = 1 := by omega
        have hmn : m < 10 ^ (n - 1) := Nat.lt_of_lt_of_le ((dec_length_le (dec_length_pos m)).1 (Nat.le_refl _)) (Nat.pow_le_pow_right (by decide) (by omega))
        have hkn : k < 10 ^ (n - 1) := Nat.lt_of_lt_of_le ((dec_length_le (dec_length_pos k)).1 (Nat.le_refl _)) (Nat.pow_le_pow_right (by decide) (by omega))
        have hpn : 10 ^ n = 10 * 10 ^ (n - 1) := by rw [Nat.mul_comm, ← Nat.pow_succ, Nat.succ_eq_add_one, Nat.sub_add_cancel (by omega)]
        rcases hc01 with rfl | rfl <;> omega
      have hne : drow e n ≠ [] := by rw [← List.length_pos_iff, hdl]; omega
      have hsz2 : (⟨(drow e n).toArray⟩ : ByteArray).size ≤ 1000000000000 := by rw [ba_size, hdl]; omega
      have HV := hide hvd
      have HDR := hide hdr
      have HNE := hide hne
      have HCV := hide hcv
      clear hrow hdr hdl hvd hne hcv
      have hcv := HCV.out
      clear HCV
      go_wp2_with fail
      refine (rbare_any _ _ (drow e n) rfl HDR.out HNE.out hsz2).mono ?_
      rintro e' w3 ⟨rfl, rfl⟩
      rw [HV.out]
      clear hcv
      go_wp2_with fail
      go_ret
      exact ⟨rfl, HB.out⟩
    | succ j =>
      have hij : ((j + 1 : Nat) : Int) - 1 = (j : Int) := by omega
      rw [hij]
      clear hij
      have hjn : j < n := by omega
      have hji : (0 : Int) ≤ (j : Int) := by omega
      have hja : j < a.size := by rw [HA1.out]; exact hjn
      have hjb : j < b.size := by rw [HC1.out]; exact hjn
      have hja2 : (j : Int) < (a.size : Int) := by omega
      have hjb2 : (j : Int) < (b.size : Int) := by omega
      have hjn2 : (j : Int) < (n : Int) := by omega
      have eA : ((a[j]'hja).toNat : Int) = ((48 + dg X j : Nat) : Int) := by
        have h2 : a.data.toList[j]? = X[j]? := by rw [HA2.out]
        rw [List.getElem?_eq_getElem (by rw [← Lib.size_eq]; exact hja), List.getElem?_eq_getElem (by rw [HLA.out]; exact hjn)] at h2
        have h3 := HDA.out (X[j]'(by rw [HLA.out]; exact hjn)) (List.getElem_mem _)
        rw [dg_at (by rw [HLA.out]; exact hjn), ← Option.some.inj h2]
        rw [← Option.some.inj h2] at h3
        have h4 : (a[j]'hja) = a.data.toList[j]'(by rw [← Lib.size_eq]; exact hja) := rfl
        rw [h4]; omega
      have eB : ((b[j]'hjb).toNat : Int) = ((48 + dg Y j : Nat) : Int) := by
        have h2 : b.data.toList[j]? = Y[j]? := by rw [HC2.out]
        rw [List.getElem?_eq_getElem (by rw [← Lib.size_eq]; exact hjb), List.getElem?_eq_getElem (by rw [HLB.out]; exact hjn)] at h2
        have h3 := HDB.out (Y[j]'(by rw [HLB.out]; exact hjn)) (List.getElem_mem _)
        rw [dg_at (by rw [HLB.out]; exact hjn), ← Option.some.inj h2]
        rw [← Option.some.inj h2] at h3
        have h4 : (b[j]'hjb) = b.data.toList[j]'(by rw [← Lib.size_eq]; exact hjb) := rfl
        rw [h4]; omega
      have dA := dg_lt HDA.out j
      have dB := dg_lt HDB.out j
      have EA := hide eA
      have EB := hide eB
      have a1 : (48 : Int) ≤ ((a[j]'hja).toNat : Int) := by omega
      have a2 : ((a[j]'hja).toNat : Int) ≤ 57 := by omega
      have b1 : (48 : Int) ≤ ((b[j]'hjb).toNat : Int) := by omega
      have b2 : ((b[j]'hjb).toNat : Int) ≤ 57 := by omega
      clear eA eB
      have hcell := HR.out.cell hjn
      have hfz := HR.out.frozen j
      go_wp2_with fail
      go_region_with (go_at_call 148; refine (rcol_sub _ ((a[j]'hja).toNat : Int) ((b[j]'hjb).toNat : Int) (c : Int) a1 a2 b1 b2 (by omega) (by omega)).mono ?_; rintro e' w3 ⟨rfl, rfl⟩)
      all_goals
        go_wp2_with fail
        go_roundg j
        case measure => omega
        case rel =>
          obtain ⟨d, hd⟩ : ∃ d : Nat, (d : Int) = (((a[j]'hja).toNat : Int) - 48 - (((b[j]'hjb).toNat : Int) - 48) - (c : Int)) % 10 := ⟨((((a[j]'hja).toNat : Int) - 48 - (((b[j]'hjb).toNat : Int) - 48) - (c : Int)) % 10).toNat, by omega⟩
          obtain ⟨c', hc'⟩ : ∃ c' : Nat, (c' : Int) = -((((a[j]'hja).toNat : Int) - 48 - (((b[j]'hjb).toNat : Int) - 48) - (c : Int)) / 10) := ⟨(-((((a[j]'hja).toNat : Int) - 48 - (((b[j]'hjb).toNat : Int) - 48) - (c : Int)) / 10)).toNat, by have := EA.out; have := EB.out; omega⟩
          have e1 := EA.out
          have e2 := EB.out
          refine ⟨c', upd e j d, by rw [hc'], by go_num, by omega, by omega, ?_, ?_, ?_, ?_⟩
          · intro i hi
            by_cases h : i = j
            · subst h; rw [upd_same]; omega
            · rw [upd_other e d h]; exact HE.out i hi
          · refine (HR.out.set j _).congr (fun i hi => ?_)
            by_cases h : i = j
            · subst h
              simp only [if_true, Nat.lt_irrefl, if_false, dcell, upd_same]
              congr 1
              omega
            · simp only [if_neg h]
              by_cases h2 : i < j
              · rw [if_pos (show i < j + 1 by omega), if_pos h2]
              · rw [if_neg (show ¬ i < j + 1 by omega), if_neg h2]; simp only [dcell, upd_other e d h]
          · exact Dif.step HP.out hjn (by omega)
          · exact HB.out.drew.setCell hle _
end Go.Proofs.YtaccdkbofhlbkaaGreatDoor
