/- Contracts and plain laws that the statements of this seat share (part Thae). -/
import Derived.Test.YthmmgjieppknkaaGreatDoorThac
import Derived.Test.YthmmgjieppknkaaGreatDoorKtaa
import Derived.Test.YthmmgjieppknkaaGreatDoorKtab
import Derived.Test.YthmmgjieppknkaaGreatDoorKtac
import Derived.Test.YthmmgjieppknkaaGreatDoorKtad
import Derived.Test.YthmmgjieppknkaaGreatDoorKtai
import Derived.Test.YthmmgjieppknkaaGreatDoorKtak
import Derived.Test.YthmmgjieppknkaaGreatDoorKtal
import Derived.Test.YthmmgjieppknkaaGreatDoorKtam
import Derived.Test.YthmmgjieppknkaaGreatDoorKtap
import Derived.Test.YthmmgjieppknkaaGreatDoorKtas
import Derived.Test.YthmmgjieppknkaaGreatDoorKtat
import Derived.Test.YthmmgjieppknkaaGreatDoorKtau
import Derived.Test.YthmmgjieppknkaaGreatDoorKtax
import Derived.Deep.OwnRows
import Derived.Lib.LazyBuf
import Derived.Laws.BytesArg
import Derived.RegionTactic
import Derived.BigRegion
import Derived.Deep.RegionWith
import Derived.Deep.RegionLaw
import Derived.Laws.Tables
import Derived.Test.YthmmgjieppknkaaGreatDoorChecked
import Derived.WalkKit
import Derived.WalkSpells
import Derived.WalkLawsBesides
import Derived.Lib.Hide
import Derived.IntWalk
import Derived.BigQuiet
import Derived.Deep.QuietTactic
import Derived.Deep.LoopGhost
import Derived.Deep.DeepCutAuto
import Derived.Deep.DeepFit
import Derived.Deep.Light
import Derived.Outline
import Derived.Laws.Rows
import Derived.Laws.NewBlocks
import Derived.Laws.CopyOwn
import Derived.Lib.ItoaNum
import Derived.Lib.ItoaLen
import Derived.Lib.Atoi
import Derived.Lib.AtoiAll
import Derived.Lib.Strings
import Derived.Lib.SlTrimSet
import Derived.Lib.Builder
import Derived.Lib.AppendStr
import Derived.Laws.Externs
import Derived.WalkSmall
import Derived.Lib.AtoiErrMem
import Derived.Shelf.Strings.SlTrimAscii
import Derived.Shelf.Strings.Builder1
import Derived.Shelf.Strings.Trim
import Derived.Shelf.Small.Utf8
import Derived.Shelf.Small.Strs
import Derived.Shelf.Strings.BuilderF
import Derived.Shelf.Strings.BuilderK
import Derived.Shelf.Strconv.Atoi
import Derived.Shelf.Strconv.Itoa0
import Derived.Shelf.Strconv.Itoa1
import Derived.Shelf.LaysM
import Derived.Shelf.Strconv.Itoa2
import Derived.Shelf.Strconv.Itoa3
import Derived.Shelf.Strings.Search1
import Derived.Shelf.Strings.Search2
import Derived.Shelf.Strings.Cut
import Derived.Shelf.Strings.Shaped
import Derived.Shelf.Strings.Prefix
import Derived.Shelf.Unicode.Decode
import Derived.Shelf.Strings.Runes
import Derived.Shelf.Strings.AsciiSet
import Derived.Shelf.Bits.Mul64
import Derived.Shelf.Unicode.DecodeSlow
import Derived.Shelf.Unicode.DecodeAny
import Derived.Shelf.Unicode.DecodeLast
import Derived.Ground.Names2Prog
import Derived.Shelf.Slices.Clone
import Derived.Ground.SlgnProg
import Derived.Shelf.SlicesE.Clone
import Derived.Test.YthmmgjieppknkaaGreatDoorProg
namespace Go.Proofs.YthmmgjieppknkaaGreatDoor
open Go.RowKit MLab
theorem info_u8 : (Tryz.prog.info? 5).map (fun i => (i.zero, i.size, i.bytes)) = some (some (.int .u8 0), 1, 1) := by kernel_rfl
theorem size_u8 (w : World) : (Go.sizeOf 5).run Tryz.prog w = .ok 1 w := by kernel_rfl
theorem conv_row (w : World) (b n cap : Nat) (t : TypeId) (f : Nat → Value) (l : List UInt8) (h : w.rowIs b t n f) (hl : l.length = n) (hf : ∀ i c, l[i]? = some c → f i = .int .u8 (c.toNat : Int)) :
    (convert 192 9 (.slice (some ⟨b, 0, none⟩) n cap)).run Tryz.prog w = .ok (.string ⟨l.toArray⟩) w := by
  have h1 := run_convert_bytes_arg (P := Tryz.prog) w 192 5 Tryz.underlying192 Tryz.underlying5 b 0 n cap (l.map fun c => (c.toNat : Int)) (by rw [List.length_map, hl]) (fun i hi => by
    rw [Nat.zero_add, h.cell hi, Lib.Lz.getD_map]
    have := hf i l[i] (List.getElem?_eq_getElem (by omega))
    rw [this, List.getElem?_eq_getElem (by omega)]; rfl) 9 Tryz.underlying9
  rw [h1, Lib.Lz.strOfNums_map]
theorem wide_cell {s : ByteArray} {l : List UInt8} {n j i : Nat} {c : UInt8} (hs : s.data.toList = l) (hz : s.size = l.length) (hn : l.length ≤ n) (hj : j = n) (hi : (wideL l n)[i]? = some c) :
    (if n - s.size ≤ i ∧ i < n - s.size + (s.data.toList.map fun x => Value.int .u8 (x.toNat : Int)).length then (s.data.toList.map fun x => Value.int .u8 (x.toNat : Int))[i - (n - s.size)]?.getD default else (if i < j then .int .u8 48 else .int .u8 0)) = Value.int .u8 (c.toNat : Int) := by
  have hin : i < n := by
    have : i < (wideL l n).length := by
      rcases Nat.lt_or_ge i (wideL l n).length with h | h
      · exact h
      · rw [List.getElem?_eq_none h] at hi; cases hi
    rwa [wideL_length hn] at this
  rw [hs, List.length_map]
  rw [wideL] at hi
  by_cases h : n - s.size ≤ i
  · rw [if_pos ⟨h, by omega⟩, List.getElem?_map]
    rw [List.getElem?_append_right (by rw [List.length_replicate]; omega), List.length_replicate, ← hz] at hi
    rw [hi]; rfl
  · rw [if_neg (fun h2 => h h2.1), if_pos (by omega)]
    rw [List.getElem?_append_left (by rw [List.length_replicate]; omega), List.getElem?_replicate, if_pos (by omega)] at hi
    rw [← Option.some.inj hi]; rfl
set_option maxRecDepth 100000 in
set_option maxHeartbeats 2000000 in
theorem rwide_any (w : World) (s : ByteArray) (l : List UInt8) (n : Nat) (hl : s.data.toList = l) (hne : l ≠ []) (hn : l.length ≤ n) (hN : n ≤ 1000000000000) :
    Calls Tryz.prog 148 #[.string s, .int .i64 (n : Int)] w fun e w' => e = .returned (.string ⟨(wideL l n).toArray⟩) ∧ Below w.heap.size w w' := by
  have hmk := run_make_row' (P := Tryz.prog) 192 5 (.int .u8 0) 1 Tryz.underlying192 info_u8 rfl .i64 .i64 n (by omega) (by omega)
  have HL := hide hl
  have hsz : s.size = l.length := by rw [Lib.size_eq, hl]
  have hpos : 0 < l.length := List.length_pos_iff.2 hne
  have hsp : 0 < s.size := by omega
  have hsn : s.size ≤ n := by omega
  have HSZ := hide hsz
  clear hl hne hsz
  go_enter Tryz.func148, Tryz.ntmps148
  go_wp2_with fail
  have hrow := World.rowIs_made w (.int .u8 0) n 5
  have hbl : Below w.heap.size w (w.alloc (.cells (madeCells #[.int .u8 0] n) 5)) := (Below.refl _ _).alloc (Nat.le_refl _) _
  generalize (w.alloc (.cells (madeCells #[.int .u8 0] n) 5)) = w0 at *
  have HROW := hide hrow
  have HBL := hide hbl
  clear hrow hbl hmk
  go_loopg [6] n (fun k i wr => ∃ j : Nat, i = .int .i64 (j : Int) ∧ k + j = n ∧ wr.rowIs w.heap.size 5 n (fun t => if t < j then .int .u8 48 else .int .u8 0) ∧ Below w.heap.size w wr)
  case atStart => exact ⟨0, rfl, rfl, HROW.out.congr (fun i _ => by simp), HBL.out⟩
  case round =>
    obtain ⟨j, rfl, hk, hr, hb⟩ := hrel
    have HR := hide hr
    have HB := hide hb
    have HK := hide hk
    have hjn : j ≤ n := by omega
    clear hr hb hk
    by_cases hlt : j < n
    · have hji : (j : Int) < (n : Int) := by omega
      have hc := HR.out.cell hlt
      have hf := HR.out.frozen j
      go_wp2_with fail
      go_roundg (gk - 1)
      case measure => have := HK.out; omega
      case rel =>
        refine ⟨j + 1, by go_num, by have := HK.out; omega, (HR.out.set j _).congr (fun i hi => ?_), HB.out.setCell (by exact Nat.le_refl _) _⟩
        by_cases e : i = j
        · subst e; simp
        · simp only [if_neg e]
          by_cases h2 : i < j
          · rw [if_pos h2, if_pos (by omega)]
          · rw [if_neg h2, if_neg (by omega)]
    · have hji : ¬ (j : Int) < (n : Int) := by omega
      have hjn2 : j = n := by omega
      have hsub : (n : Int) - (s.size : Int) = ((n - s.size : Nat) : Int) := by omega
      have hne : ¬ n = n - s.size := by omega
      have hle : (n : Int) - (s.size : Int) ≤ (n : Int) := by omega
      have h0 : (0 : Int) ≤ (n : Int) - (s.size : Int) := by omega
      have hts : ((n : Int) - (s.size : Int)).toNat = n - s.size := by omega
      have hcp := fun ty dc => run_copy_string (P := Tryz.prog) wr 192 9 ty 5 w.heap.size (n - s.size) (n - (n - s.size)) dc s Tryz.underlying192 size_u8 (by omega) (fun i hi => by rw [HR.out.cell (i := n - s.size + i) (by omega)]; rfl) (fun i _ => HR.out.frozen _)
      have hrow2 := rowIs_setCells (s.data.toList.map fun x => Value.int .u8 (x.toNat : Int)) (n - s.size) wr _ HR.out
      have hbel2 : Below w.heap.size w (wr.setCells w.heap.size (n - s.size) (s.data.toList.map fun x => Value.int .u8 (x.toNat : Int))) := below_setCells (Nat.le_refl _) _ _ _ HB.out
      have hcv := conv_row _ w.heap.size n n 5 _ (wideL l n) hrow2 (wideL_length hn) (fun i c hi => by
        exact wide_cell (HL.out) HSZ.out hn hjn2 hi)
      have HCV := hide hcv
      clear hrow2 hcv
      have hcv := HCV.out
      clear HCV
      go_wp2_with fail
      go_ret
      exact ⟨rfl, hbel2⟩
theorem conv_one (w : World) (x : Int) (hx : 0 ≤ x) (hx2 : x < 256) :
    (convert 192 9 (.slice (some ⟨w.heap.size, 0, none⟩) 1 1)).run Tryz.prog (w.alloc (.cells #[.int .u8 x] 5)) = .ok (.string ⟨#[UInt8.ofNat x.toNat]⟩) (w.alloc (.cells #[.int .u8 x] 5)) := by
  refine conv_row _ w.heap.size 1 1 5 (fun _ => .int .u8 x) [UInt8.ofNat x.toNat] (World.rowIs_alloc w #[.int .u8 x] 5 _ (fun i hi => ?_)) rfl (fun i c hi => ?_)
  · have : i = 0 := by simp at hi; omega
    subst this; rfl
  · have hi0 : i = 0 := by
      rcases Nat.lt_or_ge i 1 with h | h
      · omega
      · rw [List.getElem?_eq_none (by simpa using h)] at hi; cases hi
    subst hi0
    have hc : UInt8.ofNat x.toNat = c := by simpa using hi
    subst hc
    congr 1
    rw [UInt8.toNat_ofNat']
    omega
theorem Lib_dec_ge {m : Nat} (h : ¬ m < 10) : Lib.decDigits m = Lib.decDigits (m / 10) ++ [UInt8.ofNat (48 + m % 10)] := decDigits_ge h
set_option maxRecDepth 100000 in
set_option maxHeartbeats 2000000 in
theorem rof_pos (n : Nat) (hn : (n : Int) ≤ 9223372036854775807) (w : World) :
    Calls Tryz.prog 87 #[.int .i64 (n : Int)] w fun e w' => e = .returned (.string ⟨(Lib.decDigits n).toArray⟩) ∧ Below w.heap.size w w' := by
  by_cases h0 : n = 0
  · subst h0
    go_enter Tryz.func87, Tryz.ntmps87
    go_wp2_with fail
    go_loopg [0, 3] 0 (fun k v u wr => ∃ (m : Nat) (g : ByteArray), v = .int .i64 (m : Int) ∧ u = .string g ∧ m = k ∧ m ≤ 0 ∧ g.size ≤ 20 ∧ Lib.decDigits 0 = Lib.decDigits m ++ g.data.toList ∧ Below w.heap.size w wr)
    case atStart => exact ⟨0, ⟨#[]⟩, rfl, rfl, rfl, Nat.le_refl _, by decide, by simp, Below.refl _ _⟩
    case round =>
      obtain ⟨m, g, rfl, rfl, hk, hmn, hgs, hd, hb⟩ := hrel
      have HK := hide hk
      have HD := hide hd
      have HB := hide hb
      have hmi : (m : Int) ≤ 9223372036854775807 := by omega
      clear hk hd hb
      by_cases h9 : 9 < m
      · exact absurd h9 (by omega)
      · have h9i : ¬ (9 : Int) < (m : Int) := by omega
        have hx := conv_one wr (48 + (m : Int)) (by omega) (by omega)
        have hch : UInt8.ofNat (48 + (m : Int)).toNat = UInt8.ofNat (48 + m) := by congr 1
        rw [hch] at hx
        obtain ⟨c, hc⟩ : ∃ c, UInt8.ofNat (48 + m) = c := ⟨_, rfl⟩
        rw [hc] at hx
        have hfin : (⟨#[c]⟩ : ByteArray) ++ g = ⟨(Lib.decDigits 0).toArray⟩ := by
          refine ba_eq ?_
          rw [ByteArray.data_append, Array.toList_append, HD.out, decDigits_lt (by omega), hc]
        have HF := hide hfin
        clear hch hfin hc
        go_wp2_with fail
        go_ret
        exact ⟨by rw [← HF.out]; rfl, HB.out.alloc HB.out.size _⟩
  · have hneg : ¬ (n : Int) < 0 := by omega
    have hq : ((n : Int) == -(n : Int)) = false := by rw [beq_eq_false_iff_ne]; omega
    clear h0
    go_enter Tryz.func87, Tryz.ntmps87
    go_wp2_with fail
    go_loopg [0, 3] n (fun k v u wr => ∃ (m : Nat) (g : ByteArray), v = .int .i64 (m : Int) ∧ u = .string g ∧ m = k ∧ m ≤ n ∧ g.size ≤ 20 ∧ Lib.decDigits n = Lib.decDigits m ++ g.data.toList ∧ Below w.heap.size w wr)
    case atStart => exact ⟨n, ⟨#[]⟩, rfl, rfl, rfl, Nat.le_refl _, by decide, by simp, Below.refl _ _⟩
    case round =>
      obtain ⟨m, g, rfl, rfl, hk, hmn, hgs, hd, hb⟩ := hrel
      have HK := hide hk
      have HD := hide hd
      have HB := hide hb
      have hmi : (m : Int) ≤ 9223372036854775807 := by omega
      clear hk hd hb
      by_cases h9 : 9 < m
      · have h9i : (9 : Int) < (m : Int) := by omega
        have hx := conv_one wr (48 + (m : Int) % 10) (by omega) (by omega)
        have hch : UInt8.ofNat (48 + (m : Int) % 10).toNat = UInt8.ofNat (48 + m % 10) := by congr 1
        rw [hch] at hx
        have hg20 : g.size + 1 ≤ 20 := by
          have h1 : (Lib.decDigits n).length ≤ 19 := (dec_length_le (by decide)).2 (by omega)
          have h2 := congrArg List.length HD.out
          rw [List.length_append, ← Lib.size_eq] at h2
          have h3 := dec_length_pos m
          omega
        obtain ⟨c, hc⟩ : ∃ c, UInt8.ofNat (48 + m % 10) = c := ⟨_, rfl⟩
        rw [hc] at hx
        have HC := hide hc
        have hdv : (m : Int) / 10 = ((m / 10 : Nat) : Int) := by omega
        have HDV := hide hdv
        clear hdv hch hc
        go_wp2_with fail
        go_roundg (m / 10)
        case measure => have := HK.out; omega
        case rel =>
          refine ⟨m / 10, (⟨#[c]⟩ : ByteArray) ++ g, by rw [← HDV.out], rfl, rfl, by omega, ?_, ?_, HB.out.alloc HB.out.size _⟩
          · rw [ByteArray.size_append]
            have : (⟨#[c]⟩ : ByteArray).size = 1 := rfl
            omega
          · rw [HD.out, Lib_dec_ge (by omega), HC.out, List.append_assoc, ByteArray.data_append, Array.toList_append]
      · have h9i : ¬ (9 : Int) < (m : Int) := by omega
        have hx := conv_one wr (48 + (m : Int)) (by omega) (by omega)
        have hch : UInt8.ofNat (48 + (m : Int)).toNat = UInt8.ofNat (48 + m) := by congr 1
        rw [hch] at hx
        obtain ⟨c, hc⟩ : ∃ c, UInt8.ofNat (48 + m) = c := ⟨_, rfl⟩
        rw [hc] at hx
        have hfin : (⟨#[c]⟩ : ByteArray) ++ g = ⟨(Lib.decDigits n).toArray⟩ := by
          refine ba_eq ?_
          rw [ByteArray.data_append, Array.toList_append, HD.out, decDigits_lt (by omega), hc]
        have HF := hide hfin
        clear hch hfin hc
        go_wp2_with fail
        go_ret
        exact ⟨by rw [← HF.out]; rfl, HB.out.alloc HB.out.size _⟩
set_option maxRecDepth 100000 in
set_option maxHeartbeats 2000000 in
theorem rof_any (n : Int) (h0 : -9223372036854775808 ≤ n) (h1 : n ≤ 9223372036854775807) (w : World) :
    Calls Tryz.prog 87 #[.int .i64 n] w fun e w' => e = .returned (.string ⟨(T n).toArray⟩) ∧ Below w.heap.size w w' := by
  by_cases hn : n < 0
  · by_cases hm : n = -9223372036854775808
    · subst hm
      have hT : T (-9223372036854775808) = [45, 57, 50, 50, 51, 51, 55, 50, 48, 51, 54, 56, 53, 52, 55, 55, 53, 56, 48, 56] := by kernel_rfl
      have HT := hide hT
      have hw : wrap64 9223372036854775808 = -9223372036854775808 := by unfold wrap64; decide
      clear hT h0 h1 hn
      go_enter Tryz.func87, Tryz.ntmps87
      go_wp2_with fail
      go_ret
      exact ⟨by rw [HT.out]; rfl, Below.refl _ _⟩
    · have hlo : -9223372036854775807 ≤ n := by omega
      have hq : (n == -n) = false := by rw [beq_eq_false_iff_ne]; omega
      have hpos := rof_pos n.natAbs (by omega) w
      rw [show ((n.natAbs : Nat) : Int) = -n by omega] at hpos
      have HP := hide hpos
      have hT : (⟨(Lib.decDigits n.natAbs).toArray⟩ : ByteArray).data.toList = T (-n) := by
        rw [T_nonneg (by omega), show (-n).toNat = n.natAbs by omega]
      have hsz : (⟨(Lib.decDigits n.natAbs).toArray⟩ : ByteArray).size ≤ 1000000000000 := by
        rw [ba_size]
        have : (Lib.decDigits n.natAbs).length ≤ 19 := (dec_length_le (by decide)).2 (by omega)
        omega
      have HT := hide hT
      have HSZ := hide hsz
      clear hm hpos hT hsz
      go_enter Tryz.func87, Tryz.ntmps87
      go_wp2_with fail
      refine HP.out.mono ?_
      rintro e w1 ⟨rfl, hb⟩
      go_wp2_with fail
      refine (rturned_any _ _ _ HT.out HSZ.out).mono ?_
      rintro e w2 ⟨rfl, rfl⟩
      rw [Int.neg_neg]
      go_wp2_with fail
      go_ret
      exact ⟨rfl, hb⟩
  · have := rof_pos n.toNat (by omega) w
    rw [show ((n.toNat : Nat) : Int) = n by omega, show Lib.decDigits n.toNat = T n from (T_nonneg (by omega)).symm] at this
    exact this
end Go.Proofs.YthmmgjieppknkaaGreatDoor
namespace Go.Proofs.YthmmgjieppknkaaGreatDoor
open Go.RowKit MLab
def dcell (d : Nat → Nat) (i : Nat) : Value := .int .u8 ((48 + d i : Nat) : Int)
set_option maxRecDepth 100000 in
set_option maxHeartbeats 4000000 in
theorem rpaper_add (w : World) (s t : ByteArray) (m k : Nat) (hs : s.data.toList = Lib.decDigits m) (ht : t.data.toList = Lib.decDigits k) (hsz : s.size ≤ 1000000) (htz : t.size ≤ 1000000) :
    Calls Tryz.prog 117 #[.string s, .string t, .bool true] w fun e w' => e = .returned (.string ⟨(Lib.decDigits (m + k)).toArray⟩) ∧ Below w.heap.size w w' := by
  obtain ⟨n, hn⟩ : ∃ n : Nat, n = max s.size t.size + 1 := ⟨_, rfl⟩
  have hn1 : s.size < n := by omega
  have hn2 : t.size < n := by omega
  have hnz : n ≤ 1000001 := by omega
  have hmx : max (s.size : Int) (t.size : Int) + 1 = (n : Int) := by omega
  have HS := hide hs
  have HT := hide ht
  have HMX := hide hmx
  have s1 : (Lib.decDigits m).length < n := by rw [← hs, ← Lib.size_eq]; exact hn1
  have s2 : (Lib.decDigits k).length < n := by rw [← ht, ← Lib.size_eq]; exact hn2
  clear hs ht hn hmx
  go_enter Tryz.func117, Tryz.ntmps117
  go_wp2_with fail
  rw [HMX.out]
  refine (rwide_any _ s _ n HS.out (dec_ne m) (by omega) (by omega)).mono ?_
  rintro e w1 ⟨rfl, hb1⟩
  have ha1 : (⟨(wideL (Lib.decDigits m) n).toArray⟩ : ByteArray).size = n := by rw [ba_size, wideL_length (by omega)]
  have ha2 : (⟨(wideL (Lib.decDigits m) n).toArray⟩ : ByteArray).data.toList = wideL (Lib.decDigits m) n := rfl
  generalize (⟨(wideL (Lib.decDigits m) n).toArray⟩ : ByteArray) = a at *
  have HA1 := hide ha1
  have HA2 := hide ha2
  have HB1 := hide hb1
  clear ha1 ha2 hb1
  go_wp2_with fail
  refine (rwide_any _ t _ n HT.out (dec_ne k) (by omega) (by omega)).mono ?_
  rintro e w2 ⟨rfl, hb2⟩
  have hb1' : (⟨(wideL (Lib.decDigits k) n).toArray⟩ : ByteArray).size = n := by rw [ba_size, wideL_length (by omega)]
  have hb2' : (⟨(wideL (Lib.decDigits k) n).toArray⟩ : ByteArray).data.toList = wideL (Lib.decDigits k) n := rfl
  generalize (⟨(wideL (Lib.decDigits k) n).toArray⟩ : ByteArray) = b at *
  have HC1 := hide hb1'
  have HC2 := hide hb2'
  have HB2 := hide (HB1.out.trans (hb2.mono HB1.out.size))
  clear hb1' hb2' hb2 HB1
  have hmk := run_make_row' (P := Tryz.prog) 192 5 (.int .u8 0) 1 Tryz.underlying192 info_u8 rfl .i64 .i64 n (by omega) (by omega)
  go_wp2_with fail
  have hrow := World.rowIs_made w2 (.int .u8 0) n 5
  have hbl : Below w.heap.size w (w2.alloc (.cells (madeCells #[.int .u8 0] n) 5)) := HB2.out.alloc HB2.out.size _
  have hle : w.heap.size ≤ w2.heap.size := HB2.out.size
  generalize (w2.alloc (.cells (madeCells #[.int .u8 0] n) 5)) = w0 at *
  have HROW := hide hrow
  have HBL := hide hbl
  clear hrow hbl hmk
  have hda : Dig (wideL (Lib.decDigits m) n) := wideL_dig (dec_dig m) n
  have hdb : Dig (wideL (Lib.decDigits k) n) := wideL_dig (dec_dig k) n
  have HDA := hide hda
  have HDB := hide hdb
  have hla : (wideL (Lib.decDigits m) n).length = n := wideL_length (by omega)
  have hlb : (wideL (Lib.decDigits k) n).length = n := wideL_length (by omega)
  have HLA := hide hla
  have HLB := hide hlb
  clear hda hdb hla hlb
  generalize hx : wideL (Lib.decDigits m) n = X at *
  generalize hy : wideL (Lib.decDigits k) n = Y at *
  have HX := hide hx
  have HY := hide hy
  clear hx hy
  go_loopg [9, 10] n (fun q cv iv wr => ∃ (c : Nat) (e : Nat → Nat), cv = .int .i64 (c : Int) ∧ iv = .int .i64 ((q : Int) - 1) ∧ q ≤ n ∧ c ≤ 1 ∧ (∀ i, i < n → e i ≤ 9) ∧ wr.rowIs w2.heap.size 5 n (fun i => if i < q then .int .u8 0 else dcell e i) ∧ Sum n (dg X) (dg Y) e q c ∧ Below w.heap.size w wr)
  case atStart =>
    refine ⟨0, fun _ => 0, rfl, rfl, Nat.le_refl _, by decide, fun _ _ => Nat.zero_le _, HROW.out.congr (fun i hi => by simp [hi]), ?_, HBL.out⟩
    unfold Sum
    rw [Nat.sub_self]; rfl
  case round =>
    obtain ⟨c, e, rfl, rfl, hq, hc, he, hr, hp, hb⟩ := hrel
    have HE := hide he
    have HR := hide hr
    have HP := hide hp
    have HB := hide hb
    clear he hr hp hb
    cases gk with
    | zero =>
      have h0 : ¬ (0 : Int) ≤ ((0 : Nat) : Int) - 1 := by omega
      have hrow : wr.rowIs w2.heap.size 5 n (fun i => dcell e i) := HR.out.congr (fun i hi => by simp)
      have hcv := conv_row wr w2.heap.size n n 5 _ (drow e n) hrow (drow_length e n) (fun i c hi => by
        have hin : i < n := by
          rcases Nat.lt_or_ge i n with h | h
          · exact h
          · rw [List.getElem?_eq_none (by rw [drow_length]; exact h)] at hi; cases hi
        rw [drow_at e hin] at hi
        rw [← Option.some.inj hi, ofNat_toNat (by have := HE.out i hin; omega)]; rfl)
      have hdr : Dig (drow e n) := drow_dig HE.out
      have hdl : (drow e n).length = n := drow_length e n
      have hvd : val (drow e n) = m + k := by
        have h1 := HP.out
        unfold Sum at h1
        rw [Nat.sub_zero, dval_drop (l := X) n 0 (by rw [HLA.out]; omega), dval_drop (l := Y) n 0 (by rw [HLB.out]; omega), List.drop_zero, List.drop_zero, ← HX.out, ← HY.out, val_wideL, val_wideL, val_dec, val_dec] at h1
        rw [val_drow HE.out]
        have hlt : dval e 0 n < 10 ^ n := by
          have := val_lt hdr
          rw [val_drow HE.out, hdl] at this
          exact this
        have hm : m < 10 ^ n := Nat.lt_of_lt_of_le ((dec_length_le (dec_length_pos m)).1 (Nat.le_refl _)) (Nat.pow_le_pow_right (by decide) (by omega))
        have hk : k < 10 ^ n := Nat.lt_of_lt_of_le ((dec_length_le (dec_length_pos k)).1 (Nat.le_refl _)) (Nat.pow_le_pow_right (by decide) (by omega))
        have hc01 : c = 0 ∨ c = 1 := by omega
        have hmn : m < 10 ^ (n - 1) := Nat.lt_of_lt_of_le ((dec_length_le (dec_length_pos m)).1 (Nat.le_refl _)) (Nat.pow_le_pow_right (by decide) (by omega))
        have hkn : k < 10 ^ (n - 1) := Nat.lt_of_lt_of_le ((dec_length_le (dec_length_pos k)).1 (Nat.le_refl _)) (Nat.pow_le_pow_right (by decide) (by omega))
        have hpn : 10 ^ n = 10 * 10 ^ (n - 1) := by rw [Nat.mul_comm, ← Nat.pow_succ, Nat.succ_eq_add_one, Nat.sub_add_cancel (by omega)]
        rcases hc01 with rfl | rfl <;> omega
      have hne : drow e n ≠ [] := by rw [← List.length_pos_iff, hdl]; omega
      have hsz2 : (⟨(drow e n).toArray⟩ : ByteArray).size ≤ 1000000000000 := by rw [ba_size, hdl]; omega
      have HV := hide hvd
      have HDR := hide hdr
      have HNE := hide hne
      have HCV := hide hcv
      clear hrow hdr hdl hvd hne hcv
      have hcv := HCV.out
      clear HCV
      go_wp2_with fail
      refine (rbare_any _ _ (drow e n) rfl HDR.out HNE.out hsz2).mono ?_
      rintro e' w3 ⟨rfl, rfl⟩
      rw [HV.out]
      clear hcv
      go_wp2_with fail
      go_ret
      exact ⟨rfl, HB.out⟩
    | succ j =>
      have hij : ((j + 1 : Nat) : Int) - 1 = (j : Int) := by omega
      rw [hij]
      clear hij
      have hjn : j < n := by omega
      have hji : (0 : Int) ≤ (j : Int) := by omega
      have hja : j < a.size := by rw [HA1.out]; exact hjn
      have hjb : j < b.size := by rw [HC1.out]; exact hjn
      have hja2 : (j : Int) < (a.size : Int) := by omega
      have hjb2 : (j : Int) < (b.size : Int) := by omega
      have hjn2 : (j : Int) < (n : Int) := by omega
      have eA : ((a[j]'hja).toNat : Int) = ((48 + dg X j : Nat) : Int) := by
        have h2 : a.data.toList[j]? = X[j]? := by rw [HA2.out]
        rw [List.getElem?_eq_getElem (by rw [← Lib.size_eq]; exact hja), List.getElem?_eq_getElem (by rw [HLA.out]; exact hjn)] at h2
        have h3 := HDA.out (X[j]'(by rw [HLA.out]; exact hjn)) (List.getElem_mem _)
        rw [dg_at (by rw [HLA.out]; exact hjn), ← Option.some.inj h2]
        rw [← Option.some.inj h2] at h3
        have h4 : (a[j]'hja) = a.data.toList[j]'(by rw [← Lib.size_eq]; exact hja) := rfl
        rw [h4]; omega
      have eB : ((b[j]'hjb).toNat : Int) = ((48 + dg Y j : Nat) : Int) := by
        have h2 : b.data.toList[j]? = Y[j]? := by rw [HC2.out]
        rw [List.getElem?_eq_getElem (by rw [← Lib.size_eq]; exact hjb), List.getElem?_eq_getElem (by rw [HLB.out]; exact hjn)] at h2
        have h3 := HDB.out (Y[j]'(by rw [HLB.out]; exact hjn)) (List.getElem_mem _)
        rw [dg_at (by rw [HLB.out]; exact hjn), ← Option.some.inj h2]
        rw [← Option.some.inj h2] at h3
        have h4 : (b[j]'hjb) = b.data.toList[j]'(by rw [← Lib.size_eq]; exact hjb) := rfl
        rw [h4]; omega
      have dA := dg_lt HDA.out j
      have dB := dg_lt HDB.out j
      have EA := hide eA
      have EB := hide eB
      have a1 : (48 : Int) ≤ ((a[j]'hja).toNat : Int) := by omega
      have a2 : ((a[j]'hja).toNat : Int) ≤ 57 := by omega
      have b1 : (48 : Int) ≤ ((b[j]'hjb).toNat : Int) := by omega
      have b2 : ((b[j]'hjb).toNat : Int) ≤ 57 := by omega
      clear eA eB
      have hcell := HR.out.cell hjn
      have hfz := HR.out.frozen j
      go_wp2_with fail
      go_region_with (go_at_call 149; refine (rcol_add _ ((a[j]'hja).toNat : Int) ((b[j]'hjb).toNat : Int) (c : Int) a1 a2 b1 b2 (by omega) (by omega)).mono ?_; rintro e' w3 ⟨rfl, rfl⟩)
      all_goals
        go_wp2_with fail
        go_roundg j
        case measure => omega
        case rel =>
          obtain ⟨d, hd⟩ : ∃ d : Nat, (d : Int) = (((a[j]'hja).toNat : Int) - 48 + (((b[j]'hjb).toNat : Int) - 48) + (c : Int)) % 10 := ⟨((((a[j]'hja).toNat : Int) - 48 + (((b[j]'hjb).toNat : Int) - 48) + (c : Int)) % 10).toNat, by omega⟩
          obtain ⟨c', hc'⟩ : ∃ c' : Nat, (c' : Int) = (((a[j]'hja).toNat : Int) - 48 + (((b[j]'hjb).toNat : Int) - 48) + (c : Int)) / 10 := ⟨((((a[j]'hja).toNat : Int) - 48 + (((b[j]'hjb).toNat : Int) - 48) + (c : Int)) / 10).toNat, by have := EA.out; have := EB.out; omega⟩
          have e1 := EA.out
          have e2 := EB.out
          refine ⟨c', upd e j d, by rw [hc'], by go_num, by omega, by omega, ?_, ?_, ?_, ?_⟩
          · intro i hi
            by_cases h : i = j
            · subst h; rw [upd_same]; omega
            · rw [upd_other e d h]; exact HE.out i hi
          · refine (HR.out.set j _).congr (fun i hi => ?_)
            by_cases h : i = j
            · subst h
              simp only [if_true, Nat.lt_irrefl, if_false, dcell, upd_same]
              congr 1
              omega
            · simp only [if_neg h]
              by_cases h2 : i < j
              · rw [if_pos (show i < j + 1 by omega), if_pos h2]
              · rw [if_neg (show ¬ i < j + 1 by omega), if_neg h2]; simp only [dcell, upd_other e d h]
          · have hst := Sum.step (d := d) HP.out hjn (by omega)
            rw [show (dg X j + dg Y j + c) / 10 = c' by omega] at hst
            exact hst
          · exact HB.out.drew.setCell hle _
set_option maxRecDepth 100000 in
set_option maxHeartbeats 4000000 in
theorem rpaper_sub (w : World) (s t : ByteArray) (m k : Nat) (hs : s.data.toList = Lib.decDigits m) (ht : t.data.toList = Lib.decDigits k) (hsz : s.size ≤ 1000000) (htz : t.size ≤ 1000000) (hkm : k ≤ m) :
    Calls Tryz.prog 117 #[.string s, .string t, .bool false] w fun e w' => e = .returned (.string ⟨(Lib.decDigits (m - k)).toArray⟩) ∧ Below w.heap.size w w' := by
  obtain ⟨n, hn⟩ : ∃ n : Nat, n = max s.size t.size + 1 := ⟨_, rfl⟩
  have hn1 : s.size < n := by omega
  have hn2 : t.size < n := by omega
  have hnz : n ≤ 1000001 := by omega
  have hmx : max (s.size : Int) (t.size : Int) + 1 = (n : Int) := by omega
  have HS := hide hs
  have HT := hide ht
  have HMX := hide hmx
  have s1 : (Lib.decDigits m).length < n := by rw [← hs, ← Lib.size_eq]; exact hn1
  have s2 : (Lib.decDigits k).length < n := by rw [← ht, ← Lib.size_eq]; exact hn2
  clear hs ht hn hmx
  go_enter Tryz.func117, Tryz.ntmps117
  go_wp2_with fail
  rw [HMX.out]
  refine (rwide_any _ s _ n HS.out (dec_ne m) (by omega) (by omega)).mono ?_
  rintro e w1 ⟨rfl, hb1⟩
  have ha1 : (⟨(wideL (Lib.decDigits m) n).toArray⟩ : ByteArray).size = n := by rw [ba_size, wideL_length (by omega)]
  have ha2 : (⟨(wideL (Lib.decDigits m) n).toArray⟩ : ByteArray).data.toList = wideL (Lib.decDigits m) n := rfl
  generalize (⟨(wideL (Lib.decDigits m) n).toArray⟩ : ByteArray) = a at *
  have HA1 := hide ha1
  have HA2 := hide ha2
  have HB1 := hide hb1
  clear ha1 ha2 hb1
  go_wp2_with fail
  refine (rwide_any _ t _ n HT.out (dec_ne k) (by omega) (by omega)).mono ?_
  rintro e w2 ⟨rfl, hb2⟩
  have hb1' : (⟨(wideL (Lib.decDigits k) n).toArray⟩ : ByteArray).size = n := by rw [ba_size, wideL_length (by omega)]
  have hb2' : (⟨(wideL (Lib.decDigits k) n).toArray⟩ : ByteArray).data.toList = wideL (Lib.decDigits k) n := rfl
  generalize (⟨(wideL (Lib.decDigits k) n).toArray⟩ : ByteArray) = b at *
  have HC1 := hide hb1'
  have HC2 := hide hb2'
  have HB2 := hide (HB1.out.trans (hb2.mono HB1.out.size))
  clear hb1' hb2' hb2 HB1
  have hmk := run_make_row' (P := Tryz.prog) 192 5 (.int .u8 0) 1 Tryz.underlying192 info_u8 rfl .i64 .i64 n (by omega) (by omega)
  go_wp2_with fail
  have hrow := World.rowIs_made w2 (.int .u8 0) n 5
  have hbl : Below w.heap.size w (w2.alloc (.cells (madeCells #[.int .u8 0] n) 5)) := HB2.out.alloc HB2.out.size _
  have hle : w.heap.size ≤ w2.heap.size := HB2.out.size
  generalize (w2.alloc (.cells (madeCells #[.int .u8 0] n) 5)) = w0 at *
  have HROW := hide hrow
  have HBL := hide hbl
  clear hrow hbl hmk
  have hda : Dig (wideL (Lib.decDigits m) n) := wideL_dig (dec_dig m) n
  have hdb : Dig (wideL (Lib.decDigits k) n) := wideL_dig (dec_dig k) n
  have HDA := hide hda
  have HDB := hide hdb
  have hla : (wideL (Lib.decDigits m) n).length = n := wideL_length (by omega)
  have hlb : (wideL (Lib.decDigits k) n).length = n := wideL_length (by omega)
  have HLA := hide hla
  have HLB := hide hlb
  clear hda hdb hla hlb
  generalize hx : wideL (Lib.decDigits m) n = X at *
  generalize hy : wideL (Lib.decDigits k) n = Y at *
  have HX := hide hx
  have HY := hide hy
  clear hx hy
  go_loopg [9, 10] n (fun q cv iv wr => ∃ (c : Nat) (e : Nat → Nat), cv = .int .i64 (c : Int) ∧ iv = .int .i64 ((q : Int) - 1) ∧ q ≤ n ∧ c ≤ 1 ∧ (∀ i, i < n → e i ≤ 9) ∧ wr.rowIs w2.heap.size 5 n (fun i => if i < q then .int .u8 0 else dcell e i) ∧ Dif n (dg X) (dg Y) e q c ∧ Below w.heap.size w wr)
  case atStart =>
    refine ⟨0, fun _ => 0, rfl, rfl, Nat.le_refl _, by decide, fun _ _ => Nat.zero_le _, HROW.out.congr (fun i hi => by simp [hi]), ?_, HBL.out⟩
    unfold Dif
    rw [Nat.sub_self]; rfl
  case round =>
    obtain ⟨c, e, rfl, rfl, hq, hc, he, hr, hp, hb⟩ := hrel
    have HE := hide he
    have HR := hide hr
    have HP := hide hp
    have HB := hide hb
    clear he hr hp hb
    cases gk with
    | zero =>
      have h0 : ¬ (0 : Int) ≤ ((0 : Nat) : Int) - 1 := by omega
      have hrow : wr.rowIs w2.heap.size 5 n (fun i => dcell e i) := HR.out.congr (fun i hi => by simp)
      have hcv := conv_row wr w2.heap.size n n 5 _ (drow e n) hrow (drow_length e n) (fun i c hi => by
        have hin : i < n := by
          rcases Nat.lt_or_ge i n with h | h
          · exact h
          · rw [List.getElem?_eq_none (by rw [drow_length]; exact h)] at hi; cases hi
        rw [drow_at e hin] at hi
        rw [← Option.some.inj hi, ofNat_toNat (by have := HE.out i hin; omega)]; rfl)
      have hdr : Dig (drow e n) := drow_dig HE.out
      have hdl : (drow e n).length = n := drow_length e n
      have hvd : val (drow e n) = m - k := by
        have h1 := HP.out
        unfold Dif at h1
        rw [Nat.sub_zero, dval_drop (l := X) n 0 (by rw [HLA.out]; omega), dval_drop (l := Y) n 0 (by rw [HLB.out]; omega), List.drop_zero, List.drop_zero, ← HX.out, ← HY.out, val_wideL, val_wideL, val_dec, val_dec] at h1
        rw [val_drow HE.out]
        have hlt : dval e 0 n < 10 ^ n := by
          have := val_lt hdr
          rw [val_drow HE.out, hdl] at this
          exact this
        have hm : m < 10 ^ n := Nat.lt_of_lt_of_le ((dec_length_le (dec_length_pos m)).1 (Nat.le_refl _)) (Nat.pow_le_pow_right (by decide) (by omega))
        have hk : k < 10 ^ n := Nat.lt_of_lt_of_le ((dec_length_le (dec_length_pos k)).1 (Nat.le_refl _)) (Nat.pow_le_pow_right (by decide) (by omega))
        have hc01 : c = 0 ∨ c = 1 := by omega
        have hmn : m < 10 ^ (n - 1) := Nat.lt_of_lt_of_le ((dec_length_le (dec_length_pos m)).1 (Nat.le_refl _)) (Nat.pow_le_pow_right (by decide) (by omega))
        have hkn : k < 10 ^ (n - 1) := Nat.lt_of_lt_of_le ((dec_length_le (dec_length_pos k)).1 (Nat.le_refl _)) (Nat.pow_le_pow_right (by decide) (by omega))
        have hpn : 10 ^ n = 10 * 10 ^ (n - 1) := by rw [Nat.mul_comm, ← Nat.pow_succ, Nat.succ_eq_add_one, Nat.sub_add_cancel (by omega)]
        rcases hc01 with rfl | rfl <;> omega
      have hne : drow e n ≠ [] := by rw [← List.length_pos_iff, hdl]; omega
      have hsz2 : (⟨(drow e n).toArray⟩ : ByteArray).size ≤ 1000000000000 := by rw [ba_size, hdl]; omega
      have HV := hide hvd
      have HDR := hide hdr
      have HNE := hide hne
      have HCV := hide hcv
      clear hrow hdr hdl hvd hne hcv
      have hcv := HCV.out
      clear HCV
      go_wp2_with fail
      refine (rbare_any _ _ (drow e n) rfl HDR.out HNE.out hsz2).mono ?_
      rintro e' w3 ⟨rfl, rfl⟩
      rw [HV.out]
      clear hcv
      go_wp2_with fail
      go_ret
      exact ⟨rfl, HB.out⟩
    | succ j =>
      have hij : ((j + 1 : Nat) : Int) - 1 = (j : Int) := by omega
      rw [hij]
      clear hij
      have hjn : j < n := by omega
      have hji : (0 : Int) ≤ (j : Int) := by omega
      have hja : j < a.size := by rw [HA1.out]; exact hjn
      have hjb : j < b.size := by rw [HC1.out]; exact hjn
      have hja2 : (j : Int) < (a.size : Int) := by omega
      have hjb2 : (j : Int) < (b.size : Int) := by omega
      have hjn2 : (j : Int) < (n : Int) := by omega
      have eA : ((a[j]'hja).toNat : Int) = ((48 + dg X j : Nat) : Int) := by
        have h2 : a.data.toList[j]? = X[j]? := by rw [HA2.out]
        rw [List.getElem?_eq_getElem (by rw [← Lib.size_eq]; exact hja), List.getElem?_eq_getElem (by rw [HLA.out]; exact hjn)] at h2
        have h3 := HDA.out (X[j]'(by rw [HLA.out]; exact hjn)) (List.getElem_mem _)
        rw [dg_at (by rw [HLA.out]; exact hjn), ← Option.some.inj h2]
        rw [← Option.some.inj h2] at h3
        have h4 : (a[j]'hja) = a.data.toList[j]'(by rw [← Lib.size_eq]; exact hja) := rfl
        rw [h4]; omega
      have eB : ((b[j]'hjb).toNat : Int) = ((48 + dg Y j : Nat) : Int) := by
        have h2 : b.data.toList[j]? = Y[j]? := by rw [HC2.out]
        rw [List.getElem?_eq_getElem (by rw [← Lib.size_eq]; exact hjb), List.getElem?_eq_getElem (by rw [HLB.out]; exact hjn)] at h2
        have h3 := HDB.out (Y[j]'(by rw [HLB.out]; exact hjn)) (List.getElem_mem _)
        rw [dg_at (by rw [HLB.out]; exact hjn), ← Option.some.inj h2]
        rw [← Option.some.inj h2] at h3
        have h4 : (b[j]'hjb) = b.data.toList[j]'(by rw [← Lib.size_eq]; exact hjb) := rfl
        rw [h4]; omega
      have dA := dg_lt HDA.out j
      have dB := dg_lt HDB.out j
      have EA := hide eA
      have EB := hide eB
      have a1 : (48 : Int) ≤ ((a[j]'hja).toNat : Int) := by omega
      have a2 : ((a[j]'hja).toNat : Int) ≤ 57 := by omega
      have b1 : (48 : Int) ≤ ((b[j]'hjb).toNat : Int) := by omega
      have b2 : ((b[j]'hjb).toNat : Int) ≤ 57 := by omega
      clear eA eB
      have hcell := HR.out.cell hjn
      have hfz := HR.out.frozen j
      go_wp2_with fail
      go_region_with (go_at_call 149; refine (rcol_sub _ ((a[j]'hja).toNat : Int) ((b[j]'hjb).toNat : Int) (c : Int) a1 a2 b1 b2 (by omega) (by omega)).mono ?_; rintro e' w3 ⟨rfl, rfl⟩)
      all_goals
        go_wp2_with fail
        go_roundg j
        case measure => omega
        case rel =>
          obtain ⟨d, hd⟩ : ∃ d : Nat, (d : Int) = (((a[j]'hja).toNat : Int) - 48 - (((b[j]'hjb).toNat : Int) - 48) - (c : Int)) % 10 := ⟨((((a[j]'hja).toNat : Int) - 48 - (((b[j]'hjb).toNat : Int) - 48) - (c : Int)) % 10).toNat, by omega⟩
          obtain ⟨c', hc'⟩ : ∃ c' : Nat, (c' : Int) = -((((a[j]'hja).toNat : Int) - 48 - (((b[j]'hjb).toNat : Int) - 48) - (c : Int)) / 10) := ⟨(-((((a[j]'hja).toNat : Int) - 48 - (((b[j]'hjb).toNat : Int) - 48) - (c : Int)) / 10)).toNat, by have := EA.out; have := EB.out; omega⟩
          have e1 := EA.out
          have e2 := EB.out
          refine ⟨c', upd e j d, by rw [hc'], by go_num, by omega, by omega, ?_, ?_, ?_, ?_⟩
          · intro i hi
            by_cases h : i = j
            · subst h; rw [upd_same]; omega
            · rw [upd_other e d h]; exact HE.out i hi
          · refine (HR.out.set j _).congr (fun i hi => ?_)
            by_cases h : i = j
            · subst h
              simp only [if_true, Nat.lt_irrefl, if_false, dcell, upd_same]
              congr 1
              omega
            · simp only [if_neg h]
              by_cases h2 : i < j
              · rw [if_pos (show i < j + 1 by omega), if_pos h2]
              · rw [if_neg (show ¬ i < j + 1 by omega), if_neg h2]; simp only [dcell, upd_other e d h]
          · exact Dif.step HP.out hjn (by omega)
          · exact HB.out.drew.setCell hle _
end Go.Proofs.YthmmgjieppknkaaGreatDoor

namespace Go.Proofs.YthmmgjieppknkaaGreatDoor
open Go.RowKit MLab
theorem info_i64 : (Tryz.prog.info? 3).map (fun i => (i.zero, i.size, i.bytes)) = some (some (.int .i64 0), 1, 8) := by kernel_rfl
theorem dg_byte {a : ByteArray} {X : List UInt8} {j : Nat} (h : a.data.toList = X) (hd : Dig X) (hj : j < a.size) : ((a[j]'hj).toNat : Int) = ((48 + dg X j : Nat) : Int) := by
  subst h
  have h1 : j < a.data.toList.length := by rw [← Lib.size_eq]; exact hj
  have h3 := hd (a.data.toList[j]) (List.getElem_mem h1)
  have h4 : (a[j]'hj) = a.data.toList[j]'h1 := rfl
  rw [dg_at h1, h4]; omega
set_option maxRecDepth 100000 in
set_option maxHeartbeats 4000000 in
theorem rproduct_any (w : World) (s t : ByteArray) (m n : Nat) (hs : s.data.toList = Lib.decDigits m) (ht : t.data.toList = Lib.decDigits n) (hsz : s.size ≤ 1000000) (htz : t.size ≤ 1000000) :
    Calls Tryz.prog 147 #[.string s, .string t] w fun e w' => e = .returned (.string ⟨(Lib.decDigits (m * n)).toArray⟩) ∧ Below w.heap.size w w' := by
  obtain ⟨L, hL⟩ : ∃ L : Nat, L = s.size + t.size := ⟨_, rfl⟩
  have hLi : (s.size : Int) + (t.size : Int) = (L : Int) := by omega
  have s1 : s.size = (Lib.decDigits m).length := by rw [Lib.size_eq, hs]
  have s2 : t.size = (Lib.decDigits n).length := by rw [Lib.size_eq, ht]
  have p1 := dec_length_pos m
  have p2 := dec_length_pos n
  have vA := val_dec m
  have vB := val_dec n
  have dA := dec_dig m
  have dB := dec_dig n
  generalize hA : Lib.decDigits m = A at *
  generalize hB : Lib.decDigits n = B at *
  have HA := hide hA
  have HBB := hide hB
  have HS := hide hs
  have HT := hide ht
  have S1 := hide s1
  have S2 := hide s2
  have VA := hide vA
  have VB := hide vB
  have DA := hide dA
  have DB := hide dB
  have HL := hide hL
  have LI := hide hLi
  have hLz : L ≤ 2000000 := by omega
  have hs0 : 0 < s.size := by omega
  have ht0 : 0 < t.size := by omega
  have hL0 : 1 ≤ L := by omega
  clear hA hB hs ht s1 s2 vA vB dA dB hL hLi
  have hmk := run_make_row' (P := Tryz.prog) 54 3 (.int .i64 0) 8 Tryz.underlying54 info_i64 rfl .i64 .i64 L (by omega) (by omega)
  rw [← LI.out] at hmk
  go_enter Tryz.func147, Tryz.ntmps147
  go_wp2_with fail
  have hrow := World.rowIs_made w (.int .i64 0) L 3
  have hbl : Below w.heap.size w (w.alloc (.cells (madeCells #[.int .i64 0] L) 3)) := (Below.refl _ _).alloc (Nat.le_refl _) _
  generalize (w.alloc (.cells (madeCells #[.int .i64 0] L) 3)) = w0 at *
  have HROW := hide hrow
  have HBL := hide hbl
  clear hrow hbl hmk
  go_loopg [6] s.size (fun q iv wr => ∃ (i : Nat) (d : Nat → Nat), iv = .int .i64 (i : Int) ∧ q + i = s.size ∧ wr.rowIs w.heap.size 3 L (fun p => .int .i64 (d p : Int)) ∧ Cols A B d i 0 ∧ Below w.heap.size w wr)
  case atStart => exact ⟨0, fun _ => 0, rfl, rfl, HROW.out, Cols.start A B, HBL.out⟩
  case round =>
    obtain ⟨i, d, rfl, hq, hr, hc, hb⟩ := hrel
    have hi : i ≤ s.size := by omega
    have HQ := hide hq
    have HR := hide hr
    have HC := hide hc
    have HB := hide hb
    clear hq hr hc hb
    obtain ⟨wo, rfl⟩ : ∃ wo : World, wo = wr := ⟨_, rfl⟩
    by_cases hlt : i < s.size
    · have hlti : (i : Int) < (s.size : Int) := by omega
      go_wp2_with fail
      obtain ⟨gq, hgq⟩ : ∃ gq : Nat, gq = gk := ⟨_, rfl⟩
      have HGQ := hide hgq
      clear hgq
      go_loopg [7] t.size (fun q kv wr => ∃ (k : Nat) (d : Nat → Nat), kv = .int .i64 (k : Int) ∧ q + k = t.size ∧ wr.rowIs w.heap.size 3 L (fun p => .int .i64 (d p : Int)) ∧ Cols A B d i k ∧ Below w.heap.size w wr)
      case atStart => exact ⟨0, d, rfl, rfl, HR.out, HC.out, HB.out⟩
      case round =>
        obtain ⟨k, d2, rfl, hq2, hr2, hc2, hb2⟩ := hrel
        have hk : k ≤ t.size := by omega
        have HQ2 := hide hq2
        have HR2 := hide hr2
        have HC2 := hide hc2
        have HB2 := hide hb2
        clear hq2 hr2 hc2 hb2 HR HC HB
        by_cases hkt : k < t.size
        · have hkti : (k : Int) < (t.size : Int) := by omega
          have hpL : i + k + 1 < L := by have := HL.out; omega
          have hpLi : (i : Int) + (k : Int) + 1 < (L : Int) := by omega
          have hcell := HR2.out.cell hpL
          have hfz := HR2.out.frozen (i + k + 1)
          have e1 := dg_byte HS.out DA.out hlt
          have e2 := dg_byte HT.out DB.out hkt
          have g1 := dg_lt DA.out i
          have g2 := dg_lt DB.out k
          have g3 := HC2.out.all (i + k + 1)
          have g4 : dg A i * dg B k ≤ 81 := by have := Nat.mul_le_mul g1 g2; omega
          have a1 : (48 : Int) ≤ ((s[i]'hlt).toNat : Int) := by omega
          have a2 : ((s[i]'hlt).toNat : Int) ≤ 57 := by omega
          have b1 : (48 : Int) ≤ ((t[k]'hkt).toNat : Int) := by omega
          have b2 : ((t[k]'hkt).toNat : Int) ≤ 57 := by omega
          have hprod : (((s[i]'hlt).toNat : Int) - 48) * (((t[k]'hkt).toNat : Int) - 48) = ((dg A i * dg B k : Nat) : Int) := by
            rw [e1, e2, show ((48 + dg A i : Nat) : Int) - 48 = (dg A i : Int) by omega, show ((48 + dg B k : Nat) : Int) - 48 = (dg B k : Int) by omega]; simp
          have hpr1 : 0 ≤ (((s[i]'hlt).toNat : Int) - 48) * (((t[k]'hkt).toNat : Int) - 48) := by rw [hprod]; omega
          have hpr2 : (((s[i]'hlt).toNat : Int) - 48) * (((t[k]'hkt).toNat : Int) - 48) ≤ 81 := by rw [hprod]; omega
          have hd2 : (d2 (i + k + 1) : Int) ≤ 81000081 := by omega
          have hd0 : (0 : Int) ≤ (d2 (i + k + 1) : Int) := by omega
          have hsum0 : 0 ≤ (i : Int) + (k : Int) + 1 := by omega
          have htn : ((i : Int) + (k : Int) + 1).toNat = i + k + 1 := by omega
          have HPR := hide hprod
          clear e1 e2 g3 g4 hprod
          go_wp2_with fail
          go_region
          go_wp2_with fail
          go_roundg (gk - 1)
          case measure => have := HQ2.out; omega
          case rel =>
            refine ⟨k + 1, upd d2 (i + k + 1) (d2 (i + k + 1) + dg A i * dg B k), by go_num, by have := HQ2.out; omega, ?_, HC2.out.step DA.out DB.out (by rw [← S1.out]; exact hlt) (by rw [← S2.out]; exact hkt), HB2.out.drew.setCell (Nat.le_refl _) _⟩
            refine (HR2.out.drew.set (i + k + 1) _).congr (fun p hp => ?_)
            by_cases h : p = i + k + 1
            · subst h
              rw [if_pos rfl, upd_same, HPR.out]
              congr 1
            · rw [if_neg h, upd_other d2 _ h]
        · have hkti : ¬ (k : Int) < (t.size : Int) := by omega
          have hkl : k = t.size := by omega
          go_wp2_with fail
          go_roundg (gq - 1)
          case measure => have := HQ.out; have := HGQ.out; omega
          case rel =>
            refine ⟨i + 1, d2, by go_num, by have := HQ.out; have := HGQ.out; omega, HR2.out, ?_, HB2.out⟩
            have h1 := HC2.out
            rw [hkl, S2.out] at h1
            exact h1.next (by rw [← S1.out]; exact hlt)
    · have hlti : ¬ (i : Int) < (s.size : Int) := by omega
      have hil : i = s.size := by omega
      have hmk2 := run_make_row' (P := Tryz.prog) 192 5 (.int .u8 0) 1 Tryz.underlying192 info_u8 rfl .i64 .i64 L (by omega) (by omega)
      have hpn : val A * val B < 10 ^ L := by
        have h1 := val_lt DA.out
        have h2 := val_lt DB.out
        rw [HL.out, S1.out, S2.out, Nat.pow_add]
        exact Nat.mul_lt_mul'' h1 h2
      have htot : dval d 0 L = val A * val B := by
        have h1 := HC.out.tot
        rw [hil, S1.out, ← S1.out, ← S2.out, ← HL.out, List.take_zero, val_nil, Nat.zero_mul, Nat.mul_zero, Nat.add_zero, Nat.sub_self, Nat.pow_zero, Nat.mul_one, List.take_of_length_le (by rw [← S1.out]; exact Nat.le_refl _)] at h1
        exact h1
      have hall : ∀ p, d p ≤ 81000081 := fun p => Nat.le_trans (HC.out.all p) (by omega)
      have HTOT := hide htot
      have HPN := hide hpn
      have HALL := hide hall
      clear htot hpn hall
      go_wp2_with fail
      have hrow2 := World.rowIs_made wo (.int .u8 0) L 5
      have hbl2 : Below w.heap.size w (wo.alloc (.cells (madeCells #[.int .u8 0] L) 5)) := HB.out.alloc HB.out.size _
      have hcol : (wo.alloc (.cells (madeCells #[.int .u8 0] L) 5)).rowIs w.heap.size 3 L (fun p => .int .i64 (d p : Int)) := HR.out.alloc _
      have hwlt : w.heap.size < wo.heap.size := HR.out.lt
      generalize (wo.alloc (.cells (madeCells #[.int .u8 0] L) 5)) = w1 at *
      have HROW2 := hide hrow2
      have HBL2 := hide hbl2
      have HCOL := hide hcol
      clear hrow2 hbl2 hcol hmk2 HR HC HB
      go_loopg [9, 10] L (fun q cv iv wr => ∃ (c : Nat) (e : Nat → Nat), cv = .int .i64 (c : Int) ∧ iv = .int .i64 ((q : Int) - 1) ∧ q ≤ L ∧ c ≤ 81000081 ∧ (∀ i, i < L → e i ≤ 9) ∧ wr.rowIs w.heap.size 3 L (fun p => .int .i64 (d p : Int)) ∧ wr.rowIs wo.heap.size 5 L (fun i => if i < q then .int .u8 0 else dcell e i) ∧ Car L d e q c ∧ Below w.heap.size w wr)
      case atStart =>
        refine ⟨0, fun _ => 0, rfl, rfl, Nat.le_refl _, by decide, fun _ _ => Nat.zero_le _, HCOL.out, HROW2.out.congr (fun i hi => by simp [hi]), ?_, HBL2.out⟩
        unfold Car
        rw [Nat.sub_self]; rfl
      case round =>
        obtain ⟨c, e, rfl, rfl, hq3, hc3, he, hr3, hr4, hp, hb3⟩ := hrel
        have HE := hide he
        have HR3 := hide hr3
        have HR4 := hide hr4
        have HP := hide hp
        have HB3 := hide hb3
        clear he hr3 hr4 hp hb3
        cases gk with
        | zero =>
          have h0 : ¬ (0 : Int) ≤ ((0 : Nat) : Int) - 1 := by omega
          have hrow : wr.rowIs wo.heap.size 5 L (fun i => dcell e i) := HR4.out.congr (fun i hi => by simp)
          have hcv := conv_row wr wo.heap.size L L 5 _ (drow e L) hrow (drow_length e L) (fun i c hi => by
            have hin : i < L := by
              rcases Nat.lt_or_ge i L with h | h
              · exact h
              · rw [List.getElem?_eq_none (by rw [drow_length]; exact h)] at hi; cases hi
            rw [drow_at e hin] at hi
            rw [← Option.some.inj hi, ofNat_toNat (by have := HE.out i hin; omega)]; rfl)
          have hdr : Dig (drow e L) := drow_dig HE.out
          have hdl : (drow e L).length = L := drow_length e L
          have hvd : val (drow e L) = m * n := by
            have h1 := HP.out
            unfold Car at h1
            rw [Nat.sub_zero, HTOT.out] at h1
            rw [val_drow HE.out, ← VA.out, ← VB.out]
            have h2 := HPN.out
            rcases Nat.eq_zero_or_pos c with h3 | h3
            · subst h3; omega
            · have := Nat.mul_le_mul_right (10 ^ L) h3
              omega
          have hne : drow e L ≠ [] := by rw [← List.length_pos_iff, hdl]; omega
          have hsz2 : (⟨(drow e L).toArray⟩ : ByteArray).size ≤ 1000000000000 := by rw [ba_size, hdl]; omega
          have HV := hide hvd
          have HDR := hide hdr
          have HNE := hide hne
          have HCV := hide hcv
          clear hrow hdr hdl hvd hne hcv
          have hcv := HCV.out
          clear HCV
          go_wp2_with fail
          refine (rbare_any _ _ (drow e L) rfl HDR.out HNE.out hsz2).mono ?_
          rintro e' w3 ⟨rfl, rfl⟩
          rw [HV.out]
          clear hcv
          go_wp2_with fail
          go_ret
          exact ⟨rfl, HB3.out⟩
        | succ j =>
          have hij : ((j + 1 : Nat) : Int) - 1 = (j : Int) := by omega
          rw [hij]
          clear hij
          have hjn : j < L := by omega
          have hji : (0 : Int) ≤ (j : Int) := by omega
          have hjn2 : (j : Int) < (L : Int) := by omega
          have hcell := HR3.out.cell hjn
          have hcell2 := HR4.out.cell hjn
          have hfz := HR4.out.frozen j
          have hdj := HALL.out j
          go_wp2_with fail
          go_roundg j
          case measure => omega
          case rel =>
            refine ⟨(c + d j) / 10, upd e j ((c + d j) % 10), by go_num, by go_num, by omega, by omega, ?_, HR3.out.setOther (by show w.heap.size ≠ wo.heap.size; omega) _, ?_, HP.out.step hjn rfl, HB3.out.setCell (by exact Nat.le_of_lt hwlt) _⟩
            · intro i hi
              by_cases h : i = j
              · subst h; rw [upd_same]; omega
              · rw [upd_other e _ h]; exact HE.out i hi
            · refine (HR4.out.set j _).congr (fun i hi => ?_)
              by_cases h : i = j
              · subst h
                simp only [if_true, Nat.lt_irrefl, if_false, dcell, upd_same]
                congr 1
              · simp only [if_neg h]
                by_cases h2 : i < j
                · rw [if_pos (show i < j + 1 by omega), if_pos h2]
                · rw [if_neg (show ¬ i < j + 1 by omega), if_neg h2]; simp only [dcell, upd_other e _ h]
end Go.Proofs.YthmmgjieppknkaaGreatDoor
namespace Go.Proofs.YthmmgjieppknkaaGreatDoor
open Go.RowKit MLab
theorem mod_step {n v d : Nat} (hn : 0 < n) (r k : Nat) (hr : v % n = r) (h1 : k * n ≤ 10 * r + d) (h2 : 10 * r + d < (k + 1) * n) : (v * 10 + d) / n = v / n * 10 + k ∧ (v * 10 + d) % n = 10 * r + d - k * n := by
  have hdm := Nat.div_add_mod v n
  rw [hr] at hdm
  generalize v / n = q at *
  have h3 : v * 10 + d = (q * 10 + k) * n + (10 * r + d - k * n) := by
    have e2 : (q * 10 + k) * n = q * 10 * n + k * n := Nat.add_mul _ _ _
    rw [← hdm, e2]
    have : q * 10 * n = 10 * (n * q) := by rw [Nat.mul_comm (q * 10) n, Nat.mul_comm q 10, ← Nat.mul_assoc, Nat.mul_comm n 10, Nat.mul_assoc]
    omega
  have h4 : 10 * r + d - k * n < n := by rw [Nat.add_mul, Nat.one_mul] at h2; omega
  rw [h3]
  exact ⟨by rw [Nat.mul_comm, Nat.mul_add_div hn, Nat.div_eq_of_lt h4, Nat.add_zero], by rw [Nat.mul_comm, Nat.mul_add_mod, Nat.mod_eq_of_lt h4]⟩
set_option maxRecDepth 100000 in
set_option maxHeartbeats 4000000 in
theorem rdivided_any (w : World) (s t : ByteArray) (m n : Nat) (hs : s.data.toList = Lib.decDigits m) (ht : t.data.toList = Lib.decDigits n) (hn : 0 < n) (hsz : s.size ≤ 900000) (htz : t.size ≤ 900000) :
    Calls Tryz.prog 146 #[.string s, .string t] w fun e w' => e = .returned (.tuple #[.string ⟨(Lib.decDigits (m / n)).toArray⟩, .string ⟨(Lib.decDigits (m % n)).toArray⟩]) ∧ Below w.heap.size w w' := by
  have s1 : s.size = (Lib.decDigits m).length := by rw [Lib.size_eq, hs]
  have s2 : t.size = (Lib.decDigits n).length := by rw [Lib.size_eq, ht]
  have p1 := dec_length_pos m
  have vA := val_dec m
  have dA := dec_dig m
  generalize hA : Lib.decDigits m = A at *
  have HS := hide hs
  have HT := hide ht
  have S1 := hide s1
  have S2 := hide s2
  have VA := hide vA
  have DA := hide dA
  have hz0 : (0 : Nat) % n = 0 := Nat.zero_mod n
  have HZ0 := hide hz0
  clear hA hs ht s1 s2 vA dA hz0
  go_enter Tryz.func146, Tryz.ntmps146
  go_wp2_with fail
  go_loopg [6, 7, 8] s.size (fun z qv rv iv wr => ∃ (i : Nat) (g r : ByteArray), qv = .string g ∧ rv = .string r ∧ iv = .int .i64 (i : Int) ∧ z + i = s.size ∧ g.size = i ∧ Dig g.data.toList ∧ val g.data.toList = val (A.take i) / n ∧ r.data.toList = Lib.decDigits (val (A.take i) % n) ∧ Below w.heap.size w wr)
  case atStart =>
    refine ⟨0, ⟨#[]⟩, ⟨#[48]⟩, rfl, rfl, rfl, rfl, rfl, fun _ h => by simp at h, ?_, ?_, Below.refl _ _⟩
    · simp [val]
    · rw [List.take_zero, val_nil, HZ0.out, dec_zero]
  case round =>
    obtain ⟨i, g, r, rfl, rfl, rfl, hz, hg, hgd, hgv, hr, hb⟩ := hrel
    have hi : i ≤ s.size := by omega
    have HZ := hide hz
    have HG := hide hg
    have HGD := hide hgd
    have HGV := hide hgv
    have HR := hide hr
    have HB := hide hb
    have hrn : val (A.take i) % n < n := Nat.mod_lt _ hn
    have hrs : r.size ≤ 900000 := by
      rw [Lib.size_eq, hr]
      have := dec_len_mono (Nat.le_of_lt hrn)
      rw [← S2.out] at this
      omega
    have hgs : g.size ≤ 900000 := by omega
    clear hz hg hgd hgv hr hb
    by_cases hlt : i < s.size
    · have hlti : (i : Int) < (s.size : Int) := by omega
      have h0i : (0 : Int) ≤ (i : Int) := by omega
      have hlei : (i : Int) + 1 ≤ (s.size : Int) := by omega
      have htn : ((i : Int) + 1).toNat = i + 1 := by omega
      have hiA : i < A.length := by rw [← S1.out]; exact hlt
      have hex : (s.extract i (i + 1)).data.toList = [A[i]'hiA] := by
        rw [Lib.extract_data, HS.out, show i + 1 - i = 1 by omega, List.drop_eq_getElem_cons hiA, List.take_succ_cons, List.take_zero]
      have hsl : (r ++ s.extract i (i + 1)).data.toList = Lib.decDigits (val (A.take i) % n) ++ [A[i]'hiA] := by
        rw [ByteArray.data_append, Array.toList_append, hex, HR.out]
      have hsz1 : (s.extract i (i + 1)).size = 1 := by rw [Lib.size_eq, hex]; rfl
      have hszs : (r ++ s.extract i (i + 1)).size ≤ 1000000000000 := by rw [ByteArray.size_append, hsz1]; omega
      have hAd := DA.out (A[i]'hiA) (List.getElem_mem _)
      have hdd : Dig (Lib.decDigits (val (A.take i) % n) ++ [A[i]'hiA]) := (dec_dig _).append (Dig.one hAd.1 hAd.2)
      have hvv : val (Lib.decDigits (val (A.take i) % n) ++ [A[i]'hiA]) = 10 * (val (A.take i) % n) + dg A i := by rw [val_snoc, val_dec, dg_at hiA]; omega
      have hdg := dg_lt DA.out i
      have HSL := hide hsl
      have HDD := hide hdd
      have HVV := hide hvv
      obtain ⟨r0, hr0⟩ : ∃ r0, val (A.take i) % n = r0 := ⟨_, rfl⟩
      obtain ⟨d, hd⟩ : ∃ d, dg A i = d := ⟨_, rfl⟩
      rw [hd] at hdg
      have HR0 := hide hr0
      have HD := hide hd
      rw [hr0] at hrn
      clear hex hsl hsz1 hAd hdd hvv hr0 hd
      go_wp2_with fail
      refine (rbare_any _ _ _ HSL.out HDD.out (by simp) hszs).mono ?_
      rintro e w1 ⟨rfl, rfl⟩
      rw [HVV.out, HR0.out, HD.out]
      obtain ⟨gq, hgq⟩ : ∃ gq : Nat, gq = gk := ⟨_, rfl⟩
      have HGQ := hide hgq
      clear hgq
      obtain ⟨wo, rfl⟩ : ∃ wo : World, wo = wr := ⟨_, rfl⟩
      go_wp2_with fail
      go_loopg [7, 9] (10 * r0 + d) (fun z rv dv wr => ∃ (k : Nat), rv = .string ⟨(Lib.decDigits (10 * r0 + d - k * n)).toArray⟩ ∧ dv = .int .u8 (48 + (k : Int)) ∧ k * n ≤ 10 * r0 + d ∧ z = 10 * r0 + d - k * n ∧ Below w.heap.size w wr)
      case atStart => exact ⟨0, by simp, rfl, by omega, by omega, HB.out⟩
      case round =>
        obtain ⟨k, rfl, rfl, hk, hzk, hb2⟩ := hrel
        have HK := hide hk
        have HZK := hide hzk
        have HB2 := hide hb2
        have hk9 : k ≤ 9 := by
          rcases Nat.lt_or_ge k 10 with h | h
          · omega
          · have := Nat.mul_le_mul_right n h
            omega
        have hlen : (Lib.decDigits (10 * r0 + d - k * n)).length ≤ 900001 := by
          have h1 : 10 * r0 + d - k * n < 10 * n := by omega
          have h2 : (Lib.decDigits (10 * r0 + d - k * n)).length ≤ (Lib.decDigits n).length + 1 := by
            refine (dec_length_le (by omega)).2 ?_
            have h3 : n < 10 ^ (Lib.decDigits n).length := (dec_length_le (dec_length_pos n)).1 (Nat.le_refl _)
            rw [Nat.pow_succ]; omega
          rw [← S2.out] at h2; omega
        have hsz3 : (⟨(Lib.decDigits (10 * r0 + d - k * n)).toArray⟩ : ByteArray).size ≤ 1000000 := by rw [ba_size]; omega
        have hdat : (⟨(Lib.decDigits (10 * r0 + d - k * n)).toArray⟩ : ByteArray).data.toList = Lib.decDigits (10 * r0 + d - k * n) := rfl
        generalize (⟨(Lib.decDigits (10 * r0 + d - k * n)).toArray⟩ : ByteArray) = R at *
        have HDAT := hide hdat
        clear hk hzk hb2 hlen hdat
        go_wp2_with fail
        refine (rlessd_any _ R t _ n HDAT.out HT.out).mono ?_
        rintro e w2 ⟨rfl, rfl⟩
        by_cases hle : 10 * r0 + d - k * n < n
        · rw [decide_eq_true hle]
          have HLE := hide hle
          have hx := conv_one wr (48 + (k : Int)) (by omega) (by omega)
          have hch : UInt8.ofNat (48 + (k : Int)).toNat = UInt8.ofNat (48 + k) := by congr 1
          rw [hch] at hx
          obtain ⟨c, hc⟩ : ∃ c, UInt8.ofNat (48 + k) = c := ⟨_, rfl⟩
          rw [hc] at hx
          have hct : c.toNat = 48 + k := by rw [← hc, ofNat_toNat (by omega)]
          have HCT := hide hct
          obtain ⟨e1, e2⟩ := mod_step (d := d) hn r0 k HR0.out HK.out (by have := HLE.out; have := HK.out; rw [Nat.add_mul, Nat.one_mul]; omega)
          have E1 := hide e1
          have E2 := hide e2
          clear hle hch hc hct e1 e2
          go_wp2_with fail
          go_roundg (gq - 1)
          case measure => have := HZ.out; have := HGQ.out; omega
          case rel =>
            refine ⟨i + 1, g ++ (⟨#[c]⟩ : ByteArray), R, rfl, rfl, by go_num, by have := HZ.out; have := HGQ.out; omega, ?_, ?_, ?_, ?_, HB2.out.alloc HB2.out.size _⟩
            · rw [ByteArray.size_append, HG.out]; rfl
            · rw [ByteArray.data_append, Array.toList_append]
              exact HGD.out.append (Dig.one (by rw [HCT.out]; omega) (by rw [HCT.out]; omega))
            · rw [ByteArray.data_append, Array.toList_append, show (⟨#[c]⟩ : ByteArray).data.toList = [c] from rfl, val_snoc, HGV.out, HCT.out, val_take_succ hiA, HD.out, E1.out]; omega
            · rw [HDAT.out, val_take_succ hiA, HD.out, E2.out]
        · rw [decide_eq_false hle]
          have HLE := hide hle
          clear hle
          go_wp2_with fail
          refine (rpaper_sub _ R t (10 * r0 + d - k * n) n HDAT.out HT.out hsz3 (by omega) (by have := HLE.out; omega)).mono ?_
          rintro e w2 ⟨rfl, hb3⟩
          have HB3 := hide (HB2.out.trans (hb3.mono HB2.out.size))
          have hnx : 10 * r0 + d - k * n - n = 10 * r0 + d - (k + 1) * n := by rw [Nat.add_mul, Nat.one_mul]; omega
          rw [hnx]
          clear hb3 hnx
          go_wp2_with fail
          go_roundg (10 * r0 + d - (k + 1) * n)
          case measure => have := HZK.out; have := HLE.out; have := HK.out; rw [Nat.add_mul, Nat.one_mul]; omega
          case rel => exact ⟨k + 1, rfl, by go_num, by have := HLE.out; have := HK.out; rw [Nat.add_mul, Nat.one_mul]; omega, rfl, HB3.out⟩
    · have hlti : ¬ (i : Int) < (s.size : Int) := by omega
      have hfull : val (A.take i) = m := by rw [List.take_of_length_le (by rw [← S1.out]; omega), VA.out]
      have HF := hide hfull
      have hne : g.data.toList ≠ [] := by rw [← List.length_pos_iff, ← Lib.size_eq, HG.out]; have := S1.out; omega
      have HNE := hide hne
      have hfin : r = ⟨(Lib.decDigits (m % n)).toArray⟩ := ba_eq (by rw [HR.out, hfull])
      have HFI := hide hfin
      clear hfull hne hfin hrn
      go_wp2_with fail
      refine (rbare_any _ g _ rfl HGD.out HNE.out (by omega)).mono ?_
      rintro e w1 ⟨rfl, rfl⟩
      rw [HGV.out, HF.out]
      go_wp2_with fail
      go_ret2
      exact ⟨by rw [← HFI.out]; rfl, HB.out⟩
end Go.Proofs.YthmmgjieppknkaaGreatDoor

namespace Go.Proofs.YthmmgjieppknkaaGreatDoor
open Go.RowKit MLab
theorem dec_len_add {a b k : Nat} (hk : 1 ≤ k) (ha : (Lib.decDigits a).length ≤ k) (hb : (Lib.decDigits b).length ≤ k) : (Lib.decDigits (a + b)).length ≤ k + 1 := by
  have h1 := (dec_length_le hk).1 ha
  have h2 := (dec_length_le hk).1 hb
  refine (dec_length_le (by omega)).2 ?_
  rw [Nat.pow_succ]; omega
theorem dec_len_mul {a b k l : Nat} (hk : 1 ≤ k) (hl : 1 ≤ l) (ha : (Lib.decDigits a).length ≤ k) (hb : (Lib.decDigits b).length ≤ l) : (Lib.decDigits (a * b)).length ≤ k + l := by
  have h1 := (dec_length_le hk).1 ha
  have h2 := (dec_length_le hl).1 hb
  refine (dec_length_le (by omega)).2 ?_
  rw [Nat.pow_add]
  exact Nat.mul_lt_mul'' h1 h2
theorem mag_ba {x : Int} : (⟨(mag (T x)).toArray⟩ : ByteArray) = ⟨(Lib.decDigits x.natAbs).toArray⟩ := by rw [mag_T]
theorem sval_same {x y : Int} (h : decide (x < 0) = decide (y < 0)) : sval (decide (x < 0)) (x.natAbs + y.natAbs) = x + y := by
  unfold sval
  by_cases h1 : x < 0
  · have h2 : y < 0 := by rw [decide_eq_true h1] at h; exact of_decide_eq_true h.symm
    rw [decide_eq_true h1]; simp; omega
  · have h2 : ¬ y < 0 := by rw [decide_eq_false h1] at h; exact of_decide_eq_false h.symm
    rw [decide_eq_false h1]; simp; omega
theorem sval_less {x y : Int} (h : ¬ decide (x < 0) = decide (y < 0)) (hl : x.natAbs < y.natAbs) : sval (decide (y < 0)) (y.natAbs - x.natAbs) = x + y := by
  unfold sval
  by_cases h1 : y < 0
  · have h2 : ¬ x < 0 := fun h2 => h (by rw [decide_eq_true h1, decide_eq_true h2])
    rw [decide_eq_true h1]; simp; omega
  · have h2 : x < 0 := by
      by_cases h2 : x < 0
      · exact h2
      · exact absurd (by rw [decide_eq_false h1, decide_eq_false h2]) h
    rw [decide_eq_false h1]; simp; omega
theorem sval_more {x y : Int} (h : ¬ decide (x < 0) = decide (y < 0)) (hl : ¬ x.natAbs < y.natAbs) : sval (decide (x < 0)) (x.natAbs - y.natAbs) = x + y := by
  unfold sval
  by_cases h1 : x < 0
  · have h2 : ¬ y < 0 := fun h2 => h (by rw [decide_eq_true h1, decide_eq_true h2])
    rw [decide_eq_true h1]; simp; omega
  · have h2 : y < 0 := by
      by_cases h2 : y < 0
      · exact h2
      · exact absurd (by rw [decide_eq_false h1, decide_eq_false h2]) h
    rw [decide_eq_false h1]; simp; omega
set_option maxRecDepth 100000 in
set_option maxHeartbeats 4000000 in
theorem rplus_any (w : World) (a b : ByteArray) (x y : Int) (h : RTwo a b x y) :
    Calls Tryz.prog 75 #[.string a, .string b] w fun e w' => e = .returned (.string ⟨(T (x + y)).toArray⟩) ∧ Below w.heap.size w w' := by
  obtain ⟨hx, hy⟩ := h.small
  have H := hide h
  clear h
  by_cases hbr : (Lib.decDigits x.natAbs).length ≤ 18 ∧ (Lib.decDigits y.natAbs).length ≤ 18
  · obtain ⟨h1, h2⟩ := hbr
    obtain ⟨x1, x2⟩ := brief_bound h1
    obtain ⟨y1, y2⟩ := brief_bound h2
    go_enter Tryz.func75, Tryz.ntmps75
    go_wp2_with fail
    refine (rbrief_yes _ _ _ x y H.out.ha H.out.hb h1 h2).mono ?_
    rintro e w1 ⟨rfl, rfl⟩
    go_wp2_with fail
    refine (rof_any (x + y) (by omega) (by omega) _).mono ?_
    rintro e w1 ⟨rfl, hb⟩
    go_wp2_with fail
    go_ret
    exact ⟨rfl, hb⟩
  · have az := H.out.az
    have bz := H.out.bz
    go_enter Tryz.func75, Tryz.ntmps75
    go_wp2_with fail
    refine (rbrief_no _ _ _ x y H.out.ha H.out.hb (by omega) (by omega) hbr).mono ?_
    rintro e w1 ⟨rfl, rfl⟩
    go_wp2_with fail
    refine (rsize_any _ a _ H.out.ha (by omega)).mono ?_
    rintro e w1 ⟨rfl, rfl⟩
    rw [mag_ba]
    go_wp2_with fail
    refine (rsize_any _ b _ H.out.hb (by omega)).mono ?_
    rintro e w1 ⟨rfl, rfl⟩
    rw [mag_ba]
    have sx : (⟨(Lib.decDigits x.natAbs).toArray⟩ : ByteArray).size ≤ 800000 := by rw [ba_size]; exact hx
    have sy : (⟨(Lib.decDigits y.natAbs).toArray⟩ : ByteArray).size ≤ 800000 := by rw [ba_size]; exact hy
    have dx : (⟨(Lib.decDigits x.natAbs).toArray⟩ : ByteArray).data.toList = Lib.decDigits x.natAbs := rfl
    have dy : (⟨(Lib.decDigits y.natAbs).toArray⟩ : ByteArray).data.toList = Lib.decDigits y.natAbs := rfl
    generalize (⟨(Lib.decDigits x.natAbs).toArray⟩ : ByteArray) = gx at *
    generalize (⟨(Lib.decDigits y.natAbs).toArray⟩ : ByteArray) = gy at *
    have DX := hide dx
    have DY := hide dy
    clear dx dy hbr
    go_wp2_with fail
    refine (rbelow_any _ a x H.out.ha).mono ?_
    rintro e w1 ⟨rfl, rfl⟩
    go_wp2_with fail
    refine (rbelow_any _ b y H.out.hb).mono ?_
    rintro e w1 ⟨rfl, rfl⟩
    by_cases hsg : decide (x < 0) = decide (y < 0)
    · have hq : (decide (x < 0) == decide (y < 0)) = true := by rw [hsg]; simp
      have HSG := hide hsg
      have HRES := hide (sval_same hsg)
      have hlen : (Lib.decDigits (x.natAbs + y.natAbs)).length ≤ 1000000000000 := by
        exact Nat.le_trans (dec_len_add (k := 800000) (by decide) hx hy) (by decide)
      clear hsg
      go_wp2_with fail
      refine (rpaper_add _ gx gy _ _ DX.out DY.out (by omega) (by omega)).mono ?_
      rintro e w1 ⟨rfl, hb⟩
      have HB := hide hb
      clear hb
      go_wp2_with fail
      refine (rbelow_any _ a x H.out.ha).mono ?_
      rintro e w2 ⟨rfl, rfl⟩
      go_wp2_with fail
      refine (rsigned_any _ _ _ _ rfl (by rw [ba_size]; exact hlen)).mono ?_
      rintro e w2 ⟨rfl, rfl⟩
      rw [HRES.out]
      go_wp2_with fail
      go_ret
      exact ⟨rfl, HB.out⟩
    · have hq : (decide (x < 0) == decide (y < 0)) = false := beq_eq_false_iff_ne.2 hsg
      have HSG := hide hsg
      clear hsg
      go_wp2_with fail
      refine (rlessd_any _ gx gy _ _ DX.out DY.out).mono ?_
      rintro e w1 ⟨rfl, rfl⟩
      by_cases hl : x.natAbs < y.natAbs
      · rw [decide_eq_true hl]
        have HRES := hide (sval_less HSG.out hl)
        have HL := hide hl
        have hlen : (Lib.decDigits (y.natAbs - x.natAbs)).length ≤ 1000000000000 := Nat.le_trans (dec_len_mono (Nat.sub_le _ _)) (by omega)
        clear hl
        go_wp2_with fail
        refine (rpaper_sub _ gy gx _ _ DY.out DX.out (by omega) (by omega) (Nat.le_of_lt HL.out)).mono ?_
        rintro e w1 ⟨rfl, hb⟩
        have HB := hide hb
        clear hb
        go_wp2_with fail
        refine (rbelow_any _ b y H.out.hb).mono ?_
        rintro e w2 ⟨rfl, rfl⟩
        go_wp2_with fail
        refine (rsigned_any _ _ _ _ rfl (by rw [ba_size]; exact hlen)).mono ?_
        rintro e w2 ⟨rfl, rfl⟩
        rw [HRES.out]
        go_wp2_with fail
        go_ret
        exact ⟨rfl, HB.out⟩
      · rw [decide_eq_false hl]
        have HRES := hide (sval_more HSG.out hl)
        have HL := hide hl
        have hlen : (Lib.decDigits (x.natAbs - y.natAbs)).length ≤ 1000000000000 := Nat.le_trans (dec_len_mono (Nat.sub_le _ _)) (by omega)
        clear hl
        go_wp2_with fail
        refine (rpaper_sub _ gx gy _ _ DX.out DY.out (by omega) (by omega) (by have := HL.out; omega)).mono ?_
        rintro e w1 ⟨rfl, hb⟩
        have HB := hide hb
        clear hb
        go_wp2_with fail
        refine (rbelow_any _ a x H.out.ha).mono ?_
        rintro e w2 ⟨rfl, rfl⟩
        go_wp2_with fail
        refine (rsigned_any _ _ _ _ rfl (by rw [ba_size]; exact hlen)).mono ?_
        rintro e w2 ⟨rfl, rfl⟩
        rw [HRES.out]
        go_wp2_with fail
        go_ret
        exact ⟨rfl, HB.out⟩
theorem rtwo_turn {a b : ByteArray} {x y : Int} (h : RTwo a b x y) (hb : b.size ≤ 799999) : RTwo a ⟨(T (-y)).toArray⟩ x (-y) :=
  ⟨h.ha, rfl, h.az, by
    rw [ba_size, T_length, show (-y).natAbs = y.natAbs by omega]
    have := (mag_T_len h.hb).1
    split <;> omega⟩
set_option maxRecDepth 100000 in
set_option maxHeartbeats 1000000 in
theorem rminus_int (w : World) (a b : ByteArray) (x y : Int) (h : RTwo a b x y) (hb : b.size ≤ 799999) :
    Calls Tryz.prog 88 #[.string a, .string b] w fun e w' => e = .returned (.string ⟨(T (x - y)).toArray⟩) ∧ Below w.heap.size w w' := by
  have H := hide h
  have H2 := hide (rtwo_turn h hb)
  clear h
  go_enter Tryz.func88, Tryz.ntmps88
  go_wp2_with fail
  refine (rturned_any _ b y H.out.hb (by omega)).mono ?_
  rintro e w1 ⟨rfl, rfl⟩
  go_wp2_with fail
  refine (rplus_any _ a _ x (-y) H2.out).mono ?_
  rintro e w1 ⟨rfl, hbl⟩
  rw [← Int.sub_eq_add_neg]
  go_wp2_with fail
  go_ret
  exact ⟨rfl, hbl⟩
set_option maxRecDepth 100000 in
set_option maxHeartbeats 4000000 in
theorem rtimes_int (w : World) (a b : ByteArray) (x y : Int) (h : RTwo a b x y) :
    Calls Tryz.prog 115 #[.string a, .string b] w fun e w' => e = .returned (.string ⟨(T (x * y)).toArray⟩) ∧ Below w.heap.size w w' := by
  obtain ⟨hx, hy⟩ := h.small
  have H := hide h
  have l1 := (mag_T_len h.ha).1
  have l2 := (mag_T_len h.hb).1
  have az := h.az
  have bz := h.bz
  have hdx := dec_length_pos x.natAbs
  have hdy := dec_length_pos y.natAbs
  clear h
  by_cases hs : a.size + b.size ≤ 18
  · have h1 : (Lib.decDigits x.natAbs).length ≤ 18 := by omega
    have h2 : (Lib.decDigits y.natAbs).length ≤ 18 := by omega
    have hlen : (Lib.decDigits (x * y).natAbs).length ≤ 18 := by
      rw [Int.natAbs_mul]
      exact Nat.le_trans (dec_len_mul hdx hdy (Nat.le_refl _) (Nat.le_refl _)) (by omega)
    obtain ⟨x1, x2⟩ := brief_bound h1
    obtain ⟨y1, y2⟩ := brief_bound h2
    obtain ⟨p1, p2⟩ := brief_bound hlen
    have hsi : (a.size : Int) + (b.size : Int) ≤ 18 := by omega
    clear hlen hx hy l1 l2 hdx hdy
    go_enter Tryz.func115, Tryz.ntmps115
    go_wp2_with fail
    refine (rbrief_yes _ _ _ x y H.out.ha H.out.hb h1 h2).mono ?_
    rintro e w1 ⟨rfl, rfl⟩
    go_wp2_with fail
    refine (rof_any (x * y) (by omega) (by omega) _).mono ?_
    rintro e w1 ⟨rfl, hb⟩
    go_wp2_with fail
    go_ret
    exact ⟨rfl, hb⟩
  · have hsi : ¬ (a.size : Int) + (b.size : Int) ≤ 18 := by omega
    have hlen : (Lib.decDigits (x.natAbs * y.natAbs)).length ≤ 1000000000000 := Nat.le_trans (dec_len_mul hdx hdy (Nat.le_refl _) (Nat.le_refl _)) (by omega)
    have hsv : sval (!(decide (x < 0) == decide (y < 0))) (x.natAbs * y.natAbs) = x * y := sval_mul x y
    have HLEN := hide hlen
    have HSV := hide hsv
    clear hlen l1 l2 hdx hdy hsv
    by_cases hbr : (Lib.decDigits x.natAbs).length ≤ 18 ∧ (Lib.decDigits y.natAbs).length ≤ 18
    · obtain ⟨h1, h2⟩ := hbr
      go_enter Tryz.func115, Tryz.ntmps115
      go_wp2_with fail
      refine (rbrief_yes _ _ _ x y H.out.ha H.out.hb h1 h2).mono ?_
      rintro e w1 ⟨rfl, rfl⟩
      go_wp2_with fail
      refine (rsize_any _ a _ H.out.ha (by omega)).mono ?_
      rintro e w1 ⟨rfl, rfl⟩
      rw [mag_ba]
      go_wp2_with fail
      refine (rsize_any _ b _ H.out.hb (by omega)).mono ?_
      rintro e w1 ⟨rfl, rfl⟩
      rw [mag_ba]
      go_wp2_with fail
      refine (rproduct_any _ _ _ x.natAbs y.natAbs rfl rfl (by rw [ba_size]; omega) (by rw [ba_size]; omega)).mono ?_
      rintro e w1 ⟨rfl, hb⟩
      have HB := hide hb
      clear hb
      go_wp2_with fail
      refine (rbelow_any _ a x H.out.ha).mono ?_
      rintro e w2 ⟨rfl, rfl⟩
      go_wp2_with fail
      refine (rbelow_any _ b y H.out.hb).mono ?_
      rintro e w2 ⟨rfl, rfl⟩
      go_wp2_with fail
      refine (rsigned_any _ _ (x.natAbs * y.natAbs) _ rfl (by rw [ba_size]; exact HLEN.out)).mono ?_
      rintro e w2 ⟨rfl, rfl⟩
      rw [HSV.out]
      go_wp2_with fail
      go_ret
      exact ⟨rfl, HB.out⟩
    · go_enter Tryz.func115, Tryz.ntmps115
      go_wp2_with fail
      refine (rbrief_no _ _ _ x y H.out.ha H.out.hb (by omega) (by omega) hbr).mono ?_
      rintro e w1 ⟨rfl, rfl⟩
      clear hbr
      go_wp2_with fail
      refine (rsize_any _ a _ H.out.ha (by omega)).mono ?_
      rintro e w1 ⟨rfl, rfl⟩
      rw [mag_ba]
      go_wp2_with fail
      refine (rsize_any _ b _ H.out.hb (by omega)).mono ?_
      rintro e w1 ⟨rfl, rfl⟩
      rw [mag_ba]
      go_wp2_with fail
      refine (rproduct_any _ _ _ x.natAbs y.natAbs rfl rfl (by rw [ba_size]; omega) (by rw [ba_size]; omega)).mono ?_
      rintro e w1 ⟨rfl, hb⟩
      have HB := hide hb
      clear hb
      go_wp2_with fail
      refine (rbelow_any _ a x H.out.ha).mono ?_
      rintro e w2 ⟨rfl, rfl⟩
      go_wp2_with fail
      refine (rbelow_any _ b y H.out.hb).mono ?_
      rintro e w2 ⟨rfl, rfl⟩
      go_wp2_with fail
      refine (rsigned_any _ _ (x.natAbs * y.natAbs) _ rfl (by rw [ba_size]; exact HLEN.out)).mono ?_
      rintro e w2 ⟨rfl, rfl⟩
      rw [HSV.out]
      go_wp2_with fail
      go_ret
      exact ⟨rfl, HB.out⟩
end Go.Proofs.YthmmgjieppknkaaGreatDoor
namespace Go.Proofs.YthmmgjieppknkaaGreatDoor
open Go.RowKit MLab
theorem sub_fmod_tdiv {x y : Int} (hy : y ≠ 0) : (x - x.fmod y).tdiv y = x.fdiv y := by
  have h := Int.mul_fdiv_add_fmod x y
  rw [show x - x.fmod y = y * x.fdiv y by omega, Int.mul_tdiv_cancel_left _ hy]
def RetPair (p q : List UInt8) (e : Ending) : Prop := e = .returned (.tuple #[.string ⟨p.toArray⟩, .string ⟨q.toArray⟩])
set_option maxRecDepth 100000 in
set_option maxHeartbeats 4000000 in
theorem rparted_small (w : World) (a b : ByteArray) (x y : Int) (h : RTwo a b x y) (hy : y ≠ 0) (h1 : (Lib.decDigits x.natAbs).length ≤ 18) (h2 : (Lib.decDigits y.natAbs).length ≤ 18) :
    Calls Tryz.prog 114 #[.string a, .string b] w fun e w' => RetPair (T (x.fdiv y)) (T (x.fmod y)) e ∧ Below w.heap.size w w' := by
  obtain ⟨x1, x2⟩ := brief_bound h1
  obtain ⟨y1, y2⟩ := brief_bound h2
  have H := hide h
  have htm : (x.tmod y).natAbs < y.natAbs := by rw [Int.natAbs_tmod]; exact Nat.mod_lt _ (by omega)
  have hfl := tdiv_floor (x := x) hy
  have hsf := sub_fmod_tdiv (x := x) hy
  have hfd : (x.fdiv y).natAbs ≤ x.natAbs + 1 := by
    have h3 : (x.tdiv y).natAbs ≤ x.natAbs := by rw [Int.natAbs_tdiv]; exact Nat.div_le_self _ _
    by_cases hc : x.tmod y = 0 ∨ (x.tmod y < 0 ↔ y < 0)
    · rw [(hfl.1 hc).1]; omega
    · rw [(hfl.2 (fun e => hc (.inl e)) (fun e => hc (.inr e))).1]; omega
  have hfm : (x.fmod y).natAbs ≤ y.natAbs := by
    by_cases hc : x.tmod y = 0 ∨ (x.tmod y < 0 ↔ y < 0)
    · rw [(hfl.1 hc).2]; omega
    · rw [(hfl.2 (fun e => hc (.inl e)) (fun e => hc (.inr e))).2]; omega
  have HFL := hide hfl
  have ey : (y == 0) = false := by rw [beq_eq_false_iff_ne]; exact hy
  have ew2 : IntKind.i64.wrap (x.tmod y) = x.tmod y := IntWalk.i64_in _ ⟨by omega, by omega⟩
  have r1 : -1000000000000000000 < x.tmod y := by omega
  have r2 : x.tmod y < 1000000000000000000 := by omega
  have F1 := hide (p := -9223372036854775808 ≤ x.fdiv y ∧ x.fdiv y ≤ 9223372036854775807) (by omega)
  have F2 := hide (p := -9223372036854775808 ≤ x.fmod y ∧ x.fmod y ≤ 9223372036854775807) (by omega)
  have SF := hide hsf
  clear h hfl hsf hfd hfm htm
  go_enter Tryz.func114, Tryz.ntmps114
  go_wp2_with fail
  refine (rbrief_yes _ _ _ x y H.out.ha H.out.hb h1 h2).mono ?_
  rintro e w1 ⟨rfl, rfl⟩
  by_cases hr0 : x.tmod y = 0
  · have hb0 : (x.tmod y != 0) = false := by rw [hr0]; rfl
    obtain ⟨f1, f2⟩ := HFL.out.1 (.inl hr0)
    have G1 := hide (show wrap64 ((x - x.tmod y).tdiv y) = x.fdiv y by rw [← f2, SF.out]; exact IntWalk.wrap64_in _ F1.out)
    have G2 := hide f2
    clear f1 f2 hr0
    go_wp2_with fail
    rw [G1.out]
    refine (rof_any _ F1.out.1 F1.out.2 _).mono ?_
    rintro e w2 ⟨rfl, hb2⟩
    go_wp2_with fail
    rw [← G2.out]
    refine (rof_any _ F2.out.1 F2.out.2 _).mono ?_
    rintro e w3 ⟨rfl, hb3⟩
    have HB := hide (hb2.trans (hb3.mono hb2.size))
    clear hb2 hb3
    go_wp2_with fail
    go_ret2
    exact ⟨rfl, HB.out⟩
  · have hb0 : (x.tmod y != 0) = true := by rw [bne_iff_ne]; exact hr0
    by_cases hk : (x.tmod y < 0 ↔ y < 0)
    · have hb1 : (!(decide (x.tmod y < 0) == decide (y < 0))) = false := by simp [hk]
      obtain ⟨f1, f2⟩ := HFL.out.1 (.inr hk)
      have G1 := hide (show wrap64 ((x - x.tmod y).tdiv y) = x.fdiv y by rw [← f2, SF.out]; exact IntWalk.wrap64_in _ F1.out)
      have G2 := hide f2
      clear f1 f2 hk hr0
      go_wp2_with fail
      rw [G1.out]
      refine (rof_any _ F1.out.1 F1.out.2 _).mono ?_
      rintro e w2 ⟨rfl, hb2⟩
      go_wp2_with fail
      rw [← G2.out]
      refine (rof_any _ F2.out.1 F2.out.2 _).mono ?_
      rintro e w3 ⟨rfl, hb3⟩
      have HB := hide (hb2.trans (hb3.mono hb2.size))
      clear hb2 hb3
      go_wp2_with fail
      go_ret2
      exact ⟨rfl, HB.out⟩
    · have hb1 : (!(decide (x.tmod y < 0) == decide (y < 0))) = true := by
        by_cases h1 : x.tmod y < 0 <;> by_cases h2 : y < 0 <;> simp [h1, h2] at hk ⊢
      obtain ⟨f1, f2⟩ := HFL.out.2 hr0 hk
      have G1 := hide (show wrap64 ((x - (x.tmod y + y)).tdiv y) = x.fdiv y by rw [← f2, SF.out]; exact IntWalk.wrap64_in _ F1.out)
      have G2 := hide f2
      clear f1 f2 hk hr0
      go_wp2_with fail
      rw [G1.out]
      refine (rof_any _ F1.out.1 F1.out.2 _).mono ?_
      rintro e w2 ⟨rfl, hb2⟩
      go_wp2_with fail
      rw [← G2.out]
      refine (rof_any _ F2.out.1 F2.out.2 _).mono ?_
      rintro e w3 ⟨rfl, hb3⟩
      have HB := hide (hb2.trans (hb3.mono hb2.size))
      clear hb2 hb3
      go_wp2_with fail
      go_ret2
      exact ⟨rfl, HB.out⟩
theorem fdiv_abs {x y : Int} (hy : y ≠ 0) : (x.fdiv y).natAbs ≤ x.natAbs + 1 := by
  have hfl := tdiv_floor (x := x) hy
  have h3 : (x.tdiv y).natAbs ≤ x.natAbs := by rw [Int.natAbs_tdiv]; exact Nat.div_le_self _ _
  by_cases hc : x.tmod y = 0 ∨ (x.tmod y < 0 ↔ y < 0)
  · rw [(hfl.1 hc).1]; omega
  · rw [(hfl.2 (fun e => hc (.inl e)) (fun e => hc (.inr e))).1]; omega
theorem T_len_of {z : Int} {k : Nat} (h : (Lib.decDigits z.natAbs).length ≤ k) : (T z).length ≤ k + 1 := by rw [T_length]; split <;> omega
theorem dec_len_succ {a b k : Nat} (hk : 1 ≤ k) (hb : (Lib.decDigits b).length ≤ k) (h : a ≤ b + 1) : (Lib.decDigits a).length ≤ k + 1 :=
  Nat.le_trans (dec_len_mono h) (dec_len_add hk hb (by rw [dec_one]; exact hk))
theorem T_len_fdiv {x y : Int} (hy : y ≠ 0) : (T (x.fdiv y)).length ≤ (Lib.decDigits x.natAbs).length + 2 :=
  T_len_of (dec_len_succ (dec_length_pos _) (Nat.le_refl _) (fdiv_abs hy))
set_option maxRecDepth 100000 in
set_option maxHeartbeats 4000000 in
theorem rparted_great (w : World) (a b : ByteArray) (x y : Int) (h : RTwo a b x y) (hy : y ≠ 0) (haz : a.size ≤ 300000) (hbz : b.size ≤ 300000) (hbr : ¬ ((Lib.decDigits x.natAbs).length ≤ 18 ∧ (Lib.decDigits y.natAbs).length ≤ 18)) :
    Calls Tryz.prog 114 #[.string a, .string b] w fun e w' => RetPair (T (x.fdiv y)) (T (x.fmod y)) e ∧ Below w.heap.size w w' := by
  have H := hide h
  have l1 := (mag_T_len h.ha).1
  have l2 := (mag_T_len h.hb).1
  have hmf := mag_floor (x := x) hy
  have hrest : x - x.fdiv y * y = x.fmod y := by have := Int.mul_fdiv_add_fmod x y; rw [Int.mul_comm] at this; omega
  have hprod : (Lib.decDigits (x.fdiv y * y).natAbs).length ≤ 600003 := by
    rw [Int.natAbs_mul]
    refine Nat.le_trans (dec_len_mul (k := 300002) (l := 300000) (by decide) (by decide) ?_ (by omega)) (by decide)
    exact Nat.le_trans (dec_len_succ (dec_length_pos _) (Nat.le_refl _) (fdiv_abs hy)) (by omega)
  have hq : (Lib.decDigits (x.natAbs / y.natAbs)).length ≤ 300000 := Nat.le_trans (dec_len_mono (Nat.div_le_self _ _)) (by omega)
  have hfd : (T (x.fdiv y)).length ≤ 300002 := Nat.le_trans (T_len_fdiv hy) (by omega)
  have hyn : 0 < y.natAbs := by omega
  have hres : (⟨(Lib.decDigits (x.natAbs % y.natAbs)).toArray⟩ : ByteArray).toList = Lib.decDigits (x.natAbs % y.natAbs) := by rw [Lib.toList_data]
  have HMF := hide hmf
  have HRE := hide hrest
  have HPR := hide hprod
  have HQ := hide hq
  have HFD := hide hfd
  have HRES := hide hres
  clear h hmf hrest hprod hq hfd hres
  go_enter Tryz.func114, Tryz.ntmps114
  go_wp2_with fail
  refine (rbrief_no _ _ _ x y H.out.ha H.out.hb (by omega) (by omega) hbr).mono ?_
  rintro e w1 ⟨rfl, rfl⟩
  clear hbr
  go_wp2_with fail
  refine (rsize_any _ a _ H.out.ha (by omega)).mono ?_
  rintro e w1 ⟨rfl, rfl⟩
  rw [mag_ba]
  go_wp2_with fail
  refine (rsize_any _ b _ H.out.hb (by omega)).mono ?_
  rintro e w1 ⟨rfl, rfl⟩
  rw [mag_ba]
  go_wp2_with fail
  refine (rdivided_any _ _ _ x.natAbs y.natAbs rfl rfl hyn (by rw [ba_size]; omega) (by rw [ba_size]; omega)).mono ?_
  rintro e w1 ⟨rfl, hb1⟩
  have HB1 := hide hb1
  clear hb1
  generalize (⟨(Lib.decDigits (x.natAbs % y.natAbs)).toArray⟩ : ByteArray) = rest at *
  go_wp2_with fail
  refine (rbelow_any _ a x H.out.ha).mono ?_
  rintro e w2 ⟨rfl, rfl⟩
  go_wp2_with fail
  refine (rbelow_any _ b y H.out.hb).mono ?_
  rintro e w2 ⟨rfl, rfl⟩
  have hsv : (!(decide (x < 0) == decide (y < 0))) = (decide (x < 0) != decide (y < 0)) := rfl
  have HSV := hide hsv
  clear hsv
  go_wp2_with fail
  refine (rsigned_any _ _ (x.natAbs / y.natAbs) _ rfl (by rw [ba_size]; exact Nat.le_trans HQ.out (by decide))).mono ?_
  rintro e w2 ⟨rfl, rfl⟩
  rw [HSV.out]
  by_cases hr0 : x.natAbs % y.natAbs = 0
  · have e1 : (rest.toList == [48]) = true := by rw [HRES.out, hr0, dec_zero]; rfl
    have e2 : (!(rest.toList == [48])) = false := by rw [e1]; rfl
    have f1 := (HMF.out.1 (.inl hr0)).1
    rw [← f1]
    clear hr0 f1
    go_wp2_with fail
    refine (rtimes_int _ _ b (x.fdiv y) y ⟨rfl, H.out.hb, by rw [ba_size]; exact Nat.le_trans HFD.out (by decide), H.out.bz⟩).mono ?_
    rintro e w3 ⟨rfl, hb3⟩
    have HB3 := hide (HB1.out.trans (hb3.mono HB1.out.size))
    clear hb3
    go_wp2_with fail
    refine (rminus_int _ a _ x (x.fdiv y * y) ⟨H.out.ha, rfl, H.out.az, by rw [ba_size]; exact Nat.le_trans (T_len_of HPR.out) (by decide)⟩ (by rw [ba_size]; exact Nat.le_trans (T_len_of HPR.out) (by decide))).mono ?_
    rintro e w4 ⟨rfl, hb4⟩
    rw [HRE.out]
    have HB4 := hide (HB3.out.trans (hb4.mono HB3.out.size))
    clear hb4
    go_wp2_with fail
    go_ret2
    exact ⟨rfl, HB4.out⟩
  · have e1 : (rest.toList == [48]) = false := by
      rw [beq_eq_false_iff_ne, HRES.out, ← dec_zero]; intro e; exact hr0 (dec_inj e)
    have e2 : (!(rest.toList == [48])) = true := by rw [e1]; rfl
    by_cases hsg : decide (x < 0) = decide (y < 0)
    · have f1 := (HMF.out.1 (.inr hsg)).1
      rw [← f1]
      have e3 : (!(decide (x < 0) == decide (y < 0))) = false := by rw [hsg]; simp
      clear hr0 f1 hsg
      go_wp2_with fail
      refine (rbelow_any _ a x H.out.ha).mono ?_
      rintro e w2 ⟨rfl, rfl⟩
      go_wp2_with fail
      refine (rbelow_any _ b y H.out.hb).mono ?_
      rintro e w2 ⟨rfl, rfl⟩
      go_wp2_with fail
      refine (rtimes_int _ _ b (x.fdiv y) y ⟨rfl, H.out.hb, by rw [ba_size]; exact Nat.le_trans HFD.out (by decide), H.out.bz⟩).mono ?_
      rintro e w3 ⟨rfl, hb3⟩
      have HB3 := hide (HB1.out.trans (hb3.mono HB1.out.size))
      clear hb3
      go_wp2_with fail
      refine (rminus_int _ a _ x (x.fdiv y * y) ⟨H.out.ha, rfl, H.out.az, by rw [ba_size]; exact Nat.le_trans (T_len_of HPR.out) (by decide)⟩ (by rw [ba_size]; exact Nat.le_trans (T_len_of HPR.out) (by decide))).mono ?_
      rintro e w4 ⟨rfl, hb4⟩
      rw [HRE.out]
      have HB4 := hide (HB3.out.trans (hb4.mono HB3.out.size))
      clear hb4
      go_wp2_with fail
      go_ret2
      exact ⟨rfl, HB4.out⟩
    · have f1 := (HMF.out.2 hr0 hsg).1
      have e3 : (!(decide (x < 0) == decide (y < 0))) = true := by rw [Bool.not_eq_true']; exact beq_eq_false_iff_ne.2 hsg
      have e4 : (decide (x < 0) != decide (y < 0)) = true := e3
      have f2 : sval true (x.natAbs / y.natAbs) - 1 = x.fdiv y := by rw [f1]; simp [sval]; omega
      rw [e4]
      have F2 := hide f2
      have hql : (T (sval true (x.natAbs / y.natAbs))).length ≤ 300001 := T_len_of (by rw [sval_abs]; exact HQ.out)
      have HQL := hide hql
      clear hr0 f1 hsg e4 f2 hql
      go_wp2_with fail
      refine (rbelow_any _ a x H.out.ha).mono ?_
      rintro e w2 ⟨rfl, rfl⟩
      go_wp2_with fail
      refine (rbelow_any _ b y H.out.hb).mono ?_
      rintro e w2 ⟨rfl, rfl⟩
      go_wp2_with fail
      refine (rminus_int _ _ _ (sval true (x.natAbs / y.natAbs)) 1 ⟨rfl, T_one.symm, by rw [ba_size]; exact Nat.le_trans HQL.out (by decide), by decide⟩ (by decide)).mono ?_
      rintro e w2 ⟨rfl, hb2⟩
      rw [F2.out]
      have HB1 := hide (HB1.out.trans (hb2.mono HB1.out.size))
      clear hb2
      go_wp2_with fail
      refine (rtimes_int _ _ b (x.fdiv y) y ⟨rfl, H.out.hb, by rw [ba_size]; exact Nat.le_trans HFD.out (by decide), H.out.bz⟩).mono ?_
      rintro e w3 ⟨rfl, hb3⟩
      have HB3 := hide (HB1.out.trans (hb3.mono HB1.out.size))
      clear hb3
      go_wp2_with fail
      refine (rminus_int _ a _ x (x.fdiv y * y) ⟨H.out.ha, rfl, H.out.az, by rw [ba_size]; exact Nat.le_trans (T_len_of HPR.out) (by decide)⟩ (by rw [ba_size]; exact Nat.le_trans (T_len_of HPR.out) (by decide))).mono ?_
      rintro e w4 ⟨rfl, hb4⟩
      rw [HRE.out]
      have HB4 := hide (HB3.out.trans (hb4.mono HB3.out.size))
      clear hb4
      go_wp2_with fail
      go_ret2
      exact ⟨rfl, HB4.out⟩
theorem rparted_any (w : World) (a b : ByteArray) (x y : Int) (h : RTwo a b x y) (hy : y ≠ 0) (haz : a.size ≤ 300000) (hbz : b.size ≤ 300000) :
    Calls Tryz.prog 114 #[.string a, .string b] w fun e w' => RetPair (T (x.fdiv y)) (T (x.fmod y)) e ∧ Below w.heap.size w w' := by
  by_cases hbr : (Lib.decDigits x.natAbs).length ≤ 18 ∧ (Lib.decDigits y.natAbs).length ≤ 18
  · exact rparted_small w a b x y h hy hbr.1 hbr.2
  · exact rparted_great w a b x y h hy haz hbz hbr
theorem fmod_nat (p q : Nat) : (p : Int).fmod (q : Int) = ((p % q : Nat) : Int) := by
  rw [Int.fmod_eq_emod_of_nonneg _ (by omega)]; simp
set_option maxRecDepth 100000 in
set_option maxHeartbeats 4000000 in
theorem rshared_any (w : World) (a b : ByteArray) (x y : Int) (h : RTwo a b x y) (haz : a.size ≤ 300000) (hbz : b.size ≤ 300000) :
    Calls Tryz.prog 72 #[.string a, .string b] w fun e w' => e = .returned (.string ⟨(T (Int.gcd x y : Int)).toArray⟩) ∧ Below w.heap.size w w' := by
  have H := hide h
  have l1 := (mag_T_len h.ha).1
  have l2 := (mag_T_len h.hb).1
  clear h
  go_enter Tryz.func72, Tryz.ntmps72
  go_wp2_with fail
  refine (rsize_any _ a _ H.out.ha (by omega)).mono ?_
  rintro e w1 ⟨rfl, rfl⟩
  rw [mag_ba]
  go_wp2_with fail
  refine (rsigned_any _ _ x.natAbs _ rfl (by rw [ba_size]; omega)).mono ?_
  rintro e w1 ⟨rfl, rfl⟩
  go_wp2_with fail
  refine (rsize_any _ b _ H.out.hb (by omega)).mono ?_
  rintro e w1 ⟨rfl, rfl⟩
  rw [mag_ba]
  go_wp2_with fail
  refine (rsigned_any _ _ y.natAbs _ rfl (by rw [ba_size]; omega)).mono ?_
  rintro e w1 ⟨rfl, rfl⟩
  go_wp2_with fail
  go_loopg [0, 1] y.natAbs (fun k av bv wr => ∃ (p q : Nat) (s t : ByteArray), av = .string s ∧ bv = .string t ∧ s.data.toList = T (p : Int) ∧ t.data.toList = T (q : Int) ∧ (Lib.decDigits p).length ≤ 300000 ∧ (Lib.decDigits q).length ≤ 300000 ∧ k = q ∧ Nat.gcd p q = Int.gcd x y ∧ Below w.heap.size w wr)
  case atStart => exact ⟨x.natAbs, y.natAbs, _, _, rfl, rfl, rfl, rfl, by omega, by omega, rfl, rfl, Below.refl _ _⟩
  case round =>
    obtain ⟨p, q, s, t, rfl, rfl, hs, ht, hp, hq, hk, hg, hb⟩ := hrel
    have HS := hide hs
    have HT := hide ht
    have HP := hide hp
    have HQ := hide hq
    have HK := hide hk
    have HG := hide hg
    have HB := hide hb
    have zs : s.size ≤ 300000 := by rw [Lib.size_eq, hs, T_nat]; exact hp
    have zt : t.size ≤ 300000 := by rw [Lib.size_eq, ht, T_nat]; exact hq
    have htl : t.toList = Lib.decDigits q := by rw [Lib.toList_data, ht, T_nat]
    clear hs ht hp hq hk hg hb
    by_cases h0 : q = 0
    · have e1 : (t.toList == [48]) = true := by rw [htl, h0, dec_zero]; rfl
      have e2 : (!(t.toList == [48])) = false := by rw [e1]; rfl
      have hfin : s = ⟨(T (Int.gcd x y : Int)).toArray⟩ := ba_eq (by rw [HS.out, ← HG.out, h0, Nat.gcd_zero_right])
      have HF := hide hfin
      clear htl hfin h0
      go_wp2_with fail
      go_ret
      exact ⟨by rw [← HF.out]; rfl, HB.out⟩
    · have e1 : (t.toList == [48]) = false := by
        rw [beq_eq_false_iff_ne, htl, ← dec_zero]; intro e; exact h0 (dec_inj e)
      have e2 : (!(t.toList == [48])) = true := by rw [e1]; rfl
      clear htl
      by_cases hbr : (Lib.decDigits (p : Int).natAbs).length ≤ 18 ∧ (Lib.decDigits (q : Int).natAbs).length ≤ 18
      · obtain ⟨h1, h2⟩ := hbr
        obtain ⟨x1, x2⟩ := brief_bound h1
        obtain ⟨y1, y2⟩ := brief_bound h2
        clear h1 h2
        obtain ⟨wo, rfl⟩ : ∃ wo : World, wo = wr := ⟨_, rfl⟩
        go_wp2_with fail
        refine (rbrief_yes _ _ _ (p : Int) (q : Int) HS.out HT.out ((dec_length_le (by decide)).2 (by omega)) ((dec_length_le (by decide)).2 (by omega))).mono ?_
        rintro e w2 ⟨rfl, rfl⟩
        go_wp2_with fail
        go_loopg [5, 6] q (fun k mv nv wi => ∃ (m n z : Nat), mv = .int .i64 (m : Int) ∧ nv = .int .i64 (n : Int) ∧ k = n ∧ m < 1000000000000000000 ∧ n < 1000000000000000000 ∧ Nat.gcd m n = Int.gcd x y ∧ wi = wo.drewN z)
        case atStart => exact ⟨p, q, 0, rfl, rfl, rfl, by omega, by omega, HG.out, rfl⟩
        case round =>
          obtain ⟨m, n, z, rfl, rfl, hk2, hm, hn, hgmn, rfl⟩ := hrel
          have HK2 := hide hk2
          have GMN := hide hgmn
          clear hk2 hgmn
          by_cases hn0 : n = 0
          · have hz : ¬ (0 : Int) < (n : Int) := by omega
            have hz' : ¬ 0 < n := by omega
            have hmg : m = Int.gcd x y := by have := GMN.out; rw [hn0, Nat.gcd_zero_right] at this; exact this
            have HMG := hide hmg
            clear hmg hn0
            go_wp2_with fail
            refine (rof_any (m : Int) (by omega) (by omega) _).mono ?_
            rintro e w5 ⟨rfl, hb5⟩
            have K5 := hide ((below_drewN HB.out z).trans (hb5.mono (by have := HB.out.size; simpa using this)))
            clear hb5
            go_wp2_with fail
            go_ret
            exact ⟨by rw [← HMG.out]; rfl, K5.out⟩
          · have hz : (0 : Int) < (n : Int) := by omega
            have hz' : 0 < n := by omega
            have hz2 : ((n : Int) == 0) = false := by rw [beq_eq_false_iff_ne]; omega
            have hmod : (m : Int).tmod (n : Int) = ((m % n : Nat) : Int) := by rw [Int.tmod_eq_emod_of_nonneg (by omega)]; simp
            have hml : m % n < n := Nat.mod_lt _ (by omega)
            have ew : IntKind.i64.wrap ((m : Int).tmod (n : Int)) = ((m % n : Nat) : Int) := by rw [hmod]; exact IntWalk.i64_in _ ⟨by omega, by omega⟩
            have HMOD := hide hmod
            clear hmod
            go_wp2_with fail
            go_quiet (fail)
            go_wp2_with fail
            go_roundg (m % n)
            case measure => have := HK2.out; omega
            case rel =>
              refine ⟨n, m % n, _, rfl, ?_, rfl, hn, by omega, ?_, World.drewN_drewN _ _ _⟩
              · first | rfl | (rw [HMOD.out]) | (congr 1)
              · rw [Nat.gcd_comm, ← Nat.gcd_rec, Nat.gcd_comm]; exact GMN.out
      · have hqn : ((q : Nat) : Int) ≠ 0 := by omega
        have hlt : p % q < q := Nat.mod_lt _ (by omega)
        have HPQ := hide (rparted_any wr s t (p : Int) (q : Int) ⟨HS.out, HT.out, by omega, by omega⟩ hqn zs zt)
        have hfm := fmod_nat p q
        have HFM := hide hfm
        clear hfm
        go_wp2_with fail
        refine (rbrief_no _ _ _ (p : Int) (q : Int) HS.out HT.out (by omega) (by omega) hbr).mono ?_
        rintro e w2 ⟨rfl, rfl⟩
        clear hbr
        go_wp2_with fail
        refine HPQ.out.mono ?_
        rintro e w2 ⟨hr, hb2⟩
        rw [RetPair] at hr
        subst hr
        rw [HFM.out]
        have HB2 := hide (HB.out.trans (hb2.mono HB.out.size))
        clear hb2
        go_wp2_with fail
        go_roundg (p % q)
        case measure => have := HK.out; omega
        case rel =>
          refine ⟨q, p % q, t, _, rfl, rfl, HT.out, rfl, HQ.out, Nat.le_trans (dec_len_mono (Nat.le_of_lt hlt)) HQ.out, rfl, ?_, HB2.out⟩
          rw [Nat.gcd_comm, ← Nat.gcd_rec, Nat.gcd_comm]; exact HG.out
end Go.Proofs.YthmmgjieppknkaaGreatDoor
namespace Go.Proofs.YthmmgjieppknkaaGreatDoor
open Go.RowKit MLab
theorem gcd_len {x y : Int} (hy : y ≠ 0) {k : Nat} (h : (Lib.decDigits y.natAbs).length ≤ k) : (T (Int.gcd x y : Int)).length ≤ k := by
  rw [T_nat]
  exact Nat.le_trans (dec_len_mono (Nat.le_of_dvd (by omega) (Nat.gcd_dvd_right _ _))) h
theorem lowG_len {x y : Int} (hy : y ≠ 0) {k : Nat} (h : (Lib.decDigits y.natAbs).length ≤ k) : (T (lowG x y)).length ≤ k + 1 := by
  refine T_len_of ?_
  rw [lowG_abs]
  exact Nat.le_trans (dec_len_mono (Nat.le_of_dvd (by omega) (Nat.gcd_dvd_right _ _))) h
set_option maxRecDepth 100000 in
set_option maxHeartbeats 4000000 in
theorem rlowest_any (w : World) (a b : ByteArray) (x y : Int) (h : RTwo a b x y) (hy : y ≠ 0) (haz : a.size ≤ 200000) (hbz : b.size ≤ 200000) :
    Calls Tryz.prog 74 #[.string a, .string b] w fun e w' => e = .returned (.string ⟨(RT (Rat.divInt x y)).toArray⟩) ∧ Below w.heap.size w w' := by
  have H := hide h
  have l2 := (mag_T_len h.hb).1
  have HG := hide (Nat.le_trans (gcd_len (x := x) hy l2) hbz)
  have HL := hide (Nat.le_trans (lowG_len (x := x) hy l2) (Nat.add_le_add_right hbz 1))
  have HNE := hide (lowG_ne (x := x) hy)
  obtain ⟨e1, e2⟩ := low_num (x := x) hy
  have E1 := hide e1
  have E2 := hide e2
  clear h e1 e2
  go_enter Tryz.func74, Tryz.ntmps74
  go_wp2_with fail
  refine (rshared_any _ a b x y H.out (by omega) (by omega)).mono ?_
  rintro e w1 ⟨rfl, hb1⟩
  have HB1 := hide hb1
  clear hb1
  go_wp2_with fail
  refine (rbelow_any _ b y H.out.hb).mono ?_
  rintro e w2 ⟨rfl, rfl⟩
  go_upto_if 14 with (fail)
  go_cut [5] (fun v wc => v = .string ⟨(T (lowG x y)).toArray⟩ ∧ Below w.heap.size w wc)
  case first =>
    by_cases hn : y < 0
    · have hd : decide (y < 0) = true := decide_eq_true hn
      have hl : -(Int.gcd x y : Int) = lowG x y := by rw [lowG, if_pos hn]
      have HLL := hide hl
      rw [hd]
      clear hn hd hl
      go_wp2_with fail
      refine (rturned_any _ _ (Int.gcd x y : Int) rfl (by rw [ba_size]; exact Nat.le_trans HG.out (by decide))).mono ?_
      rintro e w2 ⟨rfl, rfl⟩
      rw [HLL.out]
      go_wp2_with fail
      go_meet
      case rel => exact ⟨rfl, HB1.out⟩
    · have hd : decide (y < 0) = false := decide_eq_false hn
      have hl : (Int.gcd x y : Int) = lowG x y := by rw [lowG, if_neg hn]
      rw [hd, hl]
      clear hn hd hl
      go_wp2_with fail
      go_meet
      case rel => exact ⟨rfl, HB1.out⟩
  case rest =>
    obtain ⟨rfl, hb⟩ := hcut
    have HB := hide hb
    clear hb HB1
    have P1 := hide (rparted_any wc a ⟨(T (lowG x y)).toArray⟩ x (lowG x y) ⟨H.out.ha, rfl, H.out.az, by rw [ba_size]; exact Nat.le_trans HL.out (by decide)⟩ HNE.out (by omega) (by rw [ba_size]; exact Nat.le_trans HL.out (by decide)))
    go_wp2_with fail
    refine P1.out.mono ?_
    rintro e w2 ⟨hr, hb2⟩
    rw [RetPair] at hr
    subst hr
    rw [E1.out]
    have HB2 := hide (HB.out.trans (hb2.mono HB.out.size))
    clear hb2 P1
    have P2 := hide (rparted_any w2 b ⟨(T (lowG x y)).toArray⟩ y (lowG x y) ⟨H.out.hb, rfl, H.out.bz, by rw [ba_size]; exact Nat.le_trans HL.out (by decide)⟩ HNE.out (by omega) (by rw [ba_size]; exact Nat.le_trans HL.out (by decide)))
    go_wp2_with fail
    refine P2.out.mono ?_
    rintro e w3 ⟨hr, hb3⟩
    rw [RetPair] at hr
    subst hr
    rw [E2.out]
    have HB3 := hide (HB2.out.trans (hb3.mono HB2.out.size))
    clear hb3 P2
    generalize hq : Rat.divInt x y = q at *
    have HQ := hide hq
    clear hq
    have zn : (⟨(T q.num).toArray⟩ : ByteArray).size ≤ 300000 := by
      rw [ba_size, ← E1.out]
      have h1 := T_len_fdiv (x := x) HNE.out
      have h2 := (mag_T_len H.out.ha).1
      omega
    have zd : (⟨(T (q.den : Int)).toArray⟩ : ByteArray).size ≤ 300000 := by
      rw [ba_size, ← E2.out]
      have h1 := T_len_fdiv (x := y) HNE.out
      omega
    have tl : (⟨(T (q.den : Int)).toArray⟩ : ByteArray).toList = T (q.den : Int) := ba_toList _
    have dn : (⟨(T q.num).toArray⟩ : ByteArray).data.toList = T q.num := rfl
    have dd : (⟨(T (q.den : Int)).toArray⟩ : ByteArray).data.toList = T (q.den : Int) := rfl
    generalize (⟨(T q.num).toArray⟩ : ByteArray) = gn at *
    generalize (⟨(T (q.den : Int)).toArray⟩ : ByteArray) = gd at *
    by_cases hd1 : q.den = 1
    · have hb : (gd.toList == [49]) = true := by rw [tl, hd1, show ((1 : Nat) : Int) = 1 from rfl, T_one]; rfl
      have e : gn = ⟨(RT q).toArray⟩ := ba_eq (by rw [dn, RT, if_pos hd1])
      have E := hide e
      clear tl dn dd e hd1
      go_wp2_with fail
      go_ret
      exact ⟨by rw [HQ.out, ← E.out]; rfl, HB3.out⟩
    · have hb : (gd.toList == [49]) = false := by
        rw [beq_eq_false_iff_ne, tl]; intro e
        have := T_inj (e.trans T_one.symm)
        omega
      have e : gn ++ (⟨#[47]⟩ : ByteArray) ++ gd = ⟨(RT q).toArray⟩ := ba_eq (by
        rw [ByteArray.data_append, ByteArray.data_append, Array.toList_append, Array.toList_append, dn, dd, RT, if_neg hd1, T_nat, List.append_assoc]; rfl)
      have E := hide e
      clear tl dn dd e hd1
      go_wp2_with fail
      go_ret
      exact ⟨by rw [HQ.out, ← E.out]; rfl, HB3.out⟩
end Go.Proofs.YthmmgjieppknkaaGreatDoor
