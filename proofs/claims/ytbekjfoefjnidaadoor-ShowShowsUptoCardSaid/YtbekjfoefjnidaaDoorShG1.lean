/-
  Digits of base 16, as the library writes them: walked. Digits as the reference writes them: walked.
-/
import Derived.Test.YtbekjfoefjnidaaDoorFsC
import Derived.Test.YtbekjfoefjnidaaDoorShP
import Derived.Laws.Bits64b
import Derived.Laws.IdiomStrings
import Derived.Test.YtbekjfoefjnidaaDoorFsAM
namespace Go.Proofs.YtbekjfoefjnidaaDoor
open Go.RowKit
set_option linter.unusedVariables false
set_option maxRecDepth 100000 in
set_option maxHeartbeats 1000000 in
theorem zeros66 (w : World) (ht : w.cell? ⟨2, 15, none⟩ = some (.int .u8 4)) : Calls Tryd.prog 66 #[.int .u64 16] w fun e w' => e = .returned (.int .i64 4) ∧ w = w' := by
  have e1 : bits BinOp.and IntKind.u64 16 (IntKind.u64.wrap (-16)) = 16 := by decide
  have e2 : IntKind.u64.wrap (16 * 285870213051353865) / 288230376151711744 = 15 := by decide
  go_enter Tryd.func66, Tryd.ntmps66
  go_wp2_with fail
  go_ret
  exact ⟨rfl, rfl⟩
theorem zeros64 (w : World) (ht : w.cell? ⟨2, 15, none⟩ = some (.int .u8 4)) : Calls Tryd.prog 64 #[.int .u64 16] w fun e w' => e = .returned (.int .i64 4) ∧ w = w' := by
  have C := Lib.hid (zeros66 w ht)
  clear ht
  go_enter Tryd.func64, Tryd.ntmps64
  go_wp2_with (go_at_call 66; refine C.out.mono ?_; rintro e w' ⟨rfl, rfl⟩)
  go_ret
  exact ⟨rfl, rfl⟩
theorem power63 (w : World) : Calls Tryd.prog 63 #[.int .i64 16] w fun e w' => e = .returned (.bool true) ∧ w = w' := by
  have e1 : bits BinOp.and IntKind.i64 16 15 = 0 := by decide
  go_enter Tryd.func63, Tryd.ntmps63
  go_wp2_with fail
  go_ret
  exact ⟨rfl, rfl⟩
theorem mask15 (v : Nat) (h : v < 16777216) : bits BinOp.and IntKind.u64 (v : Int) 15 = ((v % 16 : Nat) : Int) := by
  have := bits_and_u64_nat v 15 (by omega) (by decide)
  rw [show ((15 : Nat) : Int) = 15 from rfl] at this
  rw [this, show (15 : Nat) = 2 ^ 4 - 1 from rfl, Nat.and_two_pow_sub_one_eq_mod]
/-- the array of digits, filled from its end -/
def ArrAt (g : Nat) (l : List UInt8) (w : World) : Prop := ∃ cur : Array Value, w.heap[g]? = some (.cells cur 102 (0, 0)) ∧ cur.size = 65 ∧ l.length ≤ 7 ∧ ∀ j (h : j < l.length), cur[65 - l.length + j]? = some (.int .u8 l[j].toNat)
theorem ArrAt.new (w : World) : ArrAt w.heap.size [] (w.alloc (.cells (Array.replicate 65 (.int .u8 0)) 102)) := ⟨_, heap_alloc_new w _, by simp, by simp, by simp⟩
theorem ArrAt.cell {g : Nat} {l : List UInt8} {w : World} (h : ArrAt g l w) (k : Nat) (hk : k < 65) : ∃ x, w.cell? ⟨g, k, none⟩ = some x := by
  obtain ⟨cur, hh, hs, _, _⟩ := h
  rw [Lib.cell_of_heap hh]
  exact ⟨_, Array.getElem?_eq_getElem (by omega)⟩
theorem ArrAt.free {g : Nat} {l : List UInt8} {w : World} (h : ArrAt g l w) (k : Nat) : w.frozen? ⟨g, k, none⟩ = false := by
  obtain ⟨cur, hh, hs, _, _⟩ := h
  exact Lib.frozen_of_heap hh k
theorem ArrAt.put {g : Nat} {l : List UInt8} {w : World} (h : ArrAt g l w) (hl : l.length ≤ 6) (c : UInt8) : ArrAt g (c :: l) (w.setCell ⟨g, 64 - l.length, none⟩ (.int .u8 c.toNat)) := by
  obtain ⟨cur, hh, hs, h7, hc⟩ := h
  refine ⟨cur.set! (64 - l.length) (.int .u8 c.toNat), ?_, by simp [hs], by simp; omega, ?_⟩
  · simp [World.setCell, Array.getElem?_modify, hh]
  · intro j hj
    simp only [List.length_cons] at hj ⊢
    cases j with
    | zero => rw [show 65 - (l.length + 1) + 0 = 64 - l.length by omega, Array.set!_eq_setIfInBounds, Array.getElem?_setIfInBounds_self_of_lt (by omega)]; rfl
    | succ j =>
      have := hc j (by omega)
      rw [show 65 - (l.length + 1) + (j + 1) = 65 - l.length + j by omega]
      rw [Array.set!_eq_setIfInBounds, Array.getElem?_setIfInBounds_ne (by omega)]
      simpa using this
theorem arrLen : Tryd.prog.arrayLen 102 = 65 := by kernel_rfl
def digitsS : ByteArray := ⟨#[48, 49, 50, 51, 52, 53, 54, 55, 56, 57, 97, 98, 99, 100, 101, 102, 103, 104, 105, 106, 107, 108, 109, 110, 111, 112, 113, 114, 115, 116, 117, 118, 119, 120, 121, 122]⟩
theorem digit_run : ∀ (k : Nat) (h : k < 16) (w : World), (Instr.index 9 (.string digitsS) (.int .u64 (k : Int))).run Tryd.prog w = .ok (.int .u8 (hexC k).toNat) w
  | 0, _, _ => by kernel_rfl
  | 1, _, _ => by kernel_rfl
  | 2, _, _ => by kernel_rfl
  | 3, _, _ => by kernel_rfl
  | 4, _, _ => by kernel_rfl
  | 5, _, _ => by kernel_rfl
  | 6, _, _ => by kernel_rfl
  | 7, _, _ => by kernel_rfl
  | 8, _, _ => by kernel_rfl
  | 9, _, _ => by kernel_rfl
  | 10, _, _ => by kernel_rfl
  | 11, _, _ => by kernel_rfl
  | 12, _, _ => by kernel_rfl
  | 13, _, _ => by kernel_rfl
  | 14, _, _ => by kernel_rfl
  | 15, _, _ => by kernel_rfl
  | k + 16, h, _ => by omega
theorem digit_lt (k : Nat) (h : k < 16) : k < digitsS.size := by show k < 36; omega
theorem digit_at : ∀ (k : Nat) (h : k < 16), digitsS[k]'(digit_lt k h) = hexC k
  | 0, _ => by rfl
  | 1, _ => by rfl
  | 2, _ => by rfl
  | 3, _ => by rfl
  | 4, _ => by rfl
  | 5, _ => by rfl
  | 6, _ => by rfl
  | 7, _ => by rfl
  | 8, _ => by rfl
  | 9, _ => by rfl
  | 10, _ => by rfl
  | 11, _ => by rfl
  | 12, _ => by rfl
  | 13, _ => by rfl
  | 14, _ => by rfl
  | 15, _ => by rfl
  | k + 16, h => by omega
theorem ArrAt.text {g : Nat} {l : List UInt8} {w : World} (h : ArrAt g l w) (cap : Nat) : (convert 54 9 (.slice (some ⟨g, 65 - l.length, none⟩) l.length cap)).run Tryd.prog w = .ok (.string ⟨l.toArray⟩) w := by
  obtain ⟨cur, hh, hs, h7, hc⟩ := h
  refine run_convert_bytes_back w 54 9 5 ⟨g, 65 - l.length, none⟩ cap l Tryd.underlying54 Tryd.underlying5 Tryd.underlying9 fun j hj => ?_
  rw [addr_add, Lib.cell_of_heap hh]
  exact hc j hj
theorem slice_run (g k m : Nat) (h0 : 1 ≤ k) (h : k - 1 + m = 65) (hm : 0 < m) (w : World) : (Instr.sliceAt 102 (.pointer (some ⟨g, 0, none⟩)) (some (.int .i64 ((k : Int) - 1))) none none).run Tryd.prog w = .ok (.slice (some ⟨g, k - 1, none⟩) m m) w := by
  rw [run_sliceAt_array_l w 102 ⟨g, 0, none⟩ (by simp [Program.arrayLen, Program.elem, Tryd.underlying102]) .i64 ((k : Int) - 1) (by omega) (by rw [arrLen]; omega)]
  go_simp
  omega
set_option maxRecDepth 100000 in
set_option maxHeartbeats 4000000 in
theorem bits58 (n : Nat) (w : World) (hn : n < 16777216) (ht : w.cell? ⟨2, 15, none⟩ = some (.int .u8 4)) (h2 : 2 < w.heap.size) :
    Calls Tryd.prog 58 #[.slice none 0 0, .int .u64 n, .int .i64 16, .bool false, .bool false] w fun e w' => e = .returned (.tuple #[.slice none 0 0, .string ⟨(hexD n).toArray⟩]) ∧ Below w.heap.size w w' := by
  have C63 := Lib.hid power63
  have HT := Lib.hid (zeros64 (w.alloc (.cells (Array.replicate 65 (.int .u8 0)) 102)) (by rw [World.cell?_alloc_lt _ _ _ h2]; exact ht))
  have HA := Lib.hid (ArrAt.new w)
  clear ht
  go_enter Tryd.func58, Tryd.ntmps58
  go_wp2_with (first
    | (go_at_call 63; refine (C63.out _).mono ?_; rintro e w' ⟨rfl, rfl⟩)
    | (go_at_call 64; refine HT.out.mono ?_; rintro e w' ⟨rfl, rfl⟩))
  go_loopw [1, 13] (fun u i wr => ∃ (v k : Nat) (l : List UInt8), v < 16777216 ∧ u = .int .u64 v ∧ i = .int .i64 k ∧ (59 ≤ k ∧ k ≤ 65) ∧ Hid (k = 65 - l.length) ∧ Hid (hexD n = hexD v ++ l) ∧ Hid (v < 16 ^ (6 - l.length)) ∧ l.length ≤ 6 ∧ Hid (ArrAt w.heap.size l wr) ∧ Hid (Below w.heap.size w wr)) (fun u _ _ => (intOf u).toNat)
  case atStart => exact ⟨n, 65, [], hn, rfl, rfl, ⟨by omega, by omega⟩, Lib.hid rfl, Lib.hid (by simp), Lib.hid (by simpa using hn), by simp, HA, Lib.hid ((Below.refl _ _).alloc (Nat.le_refl _) _)⟩
  case round =>
    obtain ⟨v, k, l, hv, rfl, rfl, ⟨hk1, hk2⟩, HK, HD, HV, hl, HW, HB⟩ := hrel
    have hkl : k - 1 = 64 - l.length := by have := HK.out; omega
    obtain ⟨x, hx⟩ := HW.out.cell (k - 1) (by omega)
    have hf := HW.out.free (k - 1)
    have HP := Lib.hid (fun c => (HW.out.put hl c))
    have HB2 := Lib.hid (fun c : Value => HB.out.setCell (p := ⟨w.heap.size, k - 1, none⟩) (Nat.le_refl _) c)
    rw [← hkl] at HP
    have HK2 := Lib.hid hkl
    clear hkl
    by_cases hlt : v < 16
    · have hd := digit_run v hlt
      unfold digitsS at hd
      have HS := slice_run w.heap.size k (l.length + 1) (by omega) (by have := HK2.out; omega) (by omega)
      have HC := (HP.out (hexC v)).text (l.length + 1)
      rw [List.length_cons, show 65 - (l.length + 1) = k - 1 by have := HK2.out; omega] at HC
      go_wp2_with fail
      go_ret2
      exact ⟨by rw [HD.out, hexD_one hlt]; rfl, HB2.out _⟩
    · have hm := mask15 v hv
      have hd := digit_run (v % 16) (Nat.mod_lt _ (by decide))
      unfold digitsS at hd
      have hc : ¬ ((v : Int) < 16) := by omega
      have hl6 : l.length ≠ 6 := by intro e; have := HV.out; rw [e] at this; simp at this; omega
      have HV2 := Lib.hid (show v / 16 < 16 ^ (6 - (l.length + 1)) by
        have := HV.out
        rw [show 6 - l.length = 6 - (l.length + 1) + 1 by omega, Nat.pow_succ] at this
        omega)
      have HD2 := Lib.hid (show hexD n = hexD (v / 16) ++ (hexC (v % 16) :: l) by rw [HD.out, hexD_more hlt]; simp)
      have hl7 : l.length ≤ 5 := by omega
      have hk60 : 60 ≤ k := by have := HK.out; omega
      clear hl6
      go_wp2_with fail
      go_roundw
      case rel => exact ⟨v / 16, k - 1, hexC (v % 16) :: l, by omega, by go_num, by go_num, ⟨by omega, by omega⟩, Lib.hid (by rw [List.length_cons]; have := HK2.out; omega), HD2, HV2, by rw [List.length_cons]; omega, Lib.hid (by have h := HP.out (hexC (v % 16)); rw [← digit_at (v % 16) (Nat.mod_lt _ (by decide))] at h; exact (digit_at (v % 16) (Nat.mod_lt _ (by decide))) ▸ h), Lib.hid (HB2.out _)⟩
      case measure => simp [intOf]; omega
set_option maxRecDepth 100000 in
set_option maxHeartbeats 1000000 in
theorem format50 (n : Nat) (w : World) (hn : n < 16777216) (ht : w.cell? ⟨2, 15, none⟩ = some (.int .u8 4)) (h2 : 2 < w.heap.size) :
    Calls Tryd.prog 50 #[.int .i64 n, .int .i64 16] w fun e w' => e = .returned (.string ⟨(hexD n).toArray⟩) ∧ Below w.heap.size w w' := by
  have C := Lib.hid (bits58 n w hn ht h2)
  clear ht h2
  go_enter Tryd.func50, Tryd.ntmps50
  go_wp2_with (go_at_call 58; refine C.out.mono ?_; rintro e w' ⟨rfl, hb⟩; have HB := Lib.hid hb; clear hb)
  go_ret
  exact ⟨rfl, HB.out⟩
theorem format49 (n : Nat) (w : World) (hn : n < 16777216) (ht : w.cell? ⟨2, 15, none⟩ = some (.int .u8 4)) (h2 : 2 < w.heap.size) :
    Calls Tryd.prog 49 #[.int .i64 n, .int .i64 16] w fun e w' => e = .returned (.string ⟨(hexD n).toArray⟩) ∧ Below w.heap.size w w' := by
  have C := Lib.hid (format50 n w hn ht h2)
  clear ht h2
  go_enter Tryd.func49, Tryd.ntmps49
  go_wp2_with (go_at_call 50; refine C.out.mono ?_; rintro e w' ⟨rfl, hb⟩; have HB := Lib.hid hb; clear hb)
  go_ret
  exact ⟨rfl, HB.out⟩
theorem hexP_ba (n : Nat) : ((⟨#[92, 120, 123]⟩ : ByteArray) ++ ⟨(hexD n).toArray⟩) ++ ⟨#[125]⟩ = ⟨(hexP n).toArray⟩ := by
  apply ByteArray.ext
  simp [hexP]
/-- what hex and the rest of show read of the library: two tables -/
def TabH (w : World) : Prop := w.cell? ⟨2, 15, none⟩ = some (.int .u8 4) ∧ 2 < w.heap.size
theorem hex44 (n : Int) (w : World) (h0 : 0 ≤ n) (h1 : n ≤ 1114111) (ht : TabH w) :
    Calls Tryd.prog 44 #[.int .i64 n] w fun e w' => e = .returned (.string ⟨(hexP n).toArray⟩) ∧ Below w.heap.size w w' := by
  obtain ⟨n, rfl⟩ : ∃ m : Nat, n = m := ⟨n.toNat, by omega⟩
  have C := Lib.hid (format49 n w (by omega) ht.1 ht.2)
  have hl := hexD_len 5 n (by omega)
  have g1 : ¬ 9223372036854775807 < 3 + (hexD n).length := by omega
  have g2 : ¬ 9223372036854775807 < 3 + (hexD n).length + 1 := by omega
  clear ht hl
  go_enter Tryd.func44, Tryd.ntmps44
  go_wp2_with (go_at_call 49; refine C.out.mono ?_; rintro e w' ⟨rfl, hb⟩; have HB := Lib.hid hb; clear hb)
  go_ret
  exact ⟨by rw [← hexP_ba]; rfl, HB.out⟩
end Go.Proofs.YtbekjfoefjnidaaDoor
namespace Go.Proofs.YtbekjfoefjnidaaDoor
open Go.RowKit
set_option linter.unusedVariables false
theorem one_ba (c : UInt8) : strOfNums [(c.toNat : Int)] = ⟨#[c]⟩ := by
  apply ByteArray.ext
  simp [strOfNums]
def hexS : ByteArray := ⟨#[48, 49, 50, 51, 52, 53, 54, 55, 56, 57, 97, 98, 99, 100, 101, 102]⟩
theorem hexS_lt (k : Nat) (h : k < 16) : k < hexS.size := h
theorem hexS_at : ∀ (k : Nat) (h : k < 16), hexS[k]'(hexS_lt k h) = hexC k
  | 0, _ => by rfl
  | 1, _ => by rfl
  | 2, _ => by rfl
  | 3, _ => by rfl
  | 4, _ => by rfl
  | 5, _ => by rfl
  | 6, _ => by rfl
  | 7, _ => by rfl
  | 8, _ => by rfl
  | 9, _ => by rfl
  | 10, _ => by rfl
  | 11, _ => by rfl
  | 12, _ => by rfl
  | 13, _ => by rfl
  | 14, _ => by rfl
  | 15, _ => by rfl
  | k + 16, h => by omega
theorem cons_ba (c : UInt8) (l : List UInt8) : (⟨#[c]⟩ : ByteArray) ++ ⟨l.toArray⟩ = ⟨(c :: l).toArray⟩ := by
  apply ByteArray.ext
  simp
set_option maxRecDepth 100000 in
set_option maxHeartbeats 4000000 in
theorem hexPoint24 (n : Int) (w : World) (h0 : 0 ≤ n) (h1 : n ≤ 1114111) :
    Calls Tryd.prog 24 #[.int .i64 n] w fun e w' => e = .returned (.string ⟨(hexP n).toArray⟩) ∧ Below w.heap.size w w' := by
  obtain ⟨n, rfl⟩ : ∃ m : Nat, n = m := ⟨n.toNat, by omega⟩
  have hn : n < 16777216 := by omega
  clear h0 h1
  go_enter Tryd.func24, Tryd.ntmps24
  go_wp2_with fail
  go_loopw [0, 3] (fun u s wr => ∃ (v : Nat) (l : List UInt8), v < 16777216 ∧ u = .int .i64 v ∧ s = .string ⟨l.toArray⟩ ∧ Hid (hexD n = hexD v ++ l) ∧ Hid (v < 16 ^ (6 - l.length)) ∧ l.length ≤ 5 ∧ Hid (Below w.heap.size w wr)) (fun u _ _ => (intOf u).toNat)
  case atStart => exact ⟨n, [], hn, rfl, rfl, Lib.hid (by simp), Lib.hid (by simpa using hn), by simp, Lib.hid (Below.refl _ _)⟩
  case round =>
    obtain ⟨v, l, hv, rfl, rfl, HD, HV, hl, HB⟩ := hrel
    have hcv := conv_one wr
    have hss : ∀ x, (strOfNums [x]).size = 1 := fun x => strOfNums_size _
    have g3 : ¬ 9223372036854775807 < 1 + l.length := by omega
    have HE := Lib.hid (show strOfNums [((hexS[v % 16]'(hexS_lt _ (Nat.mod_lt _ (by decide)))).toNat : Int)] ++ ⟨l.toArray⟩ = ⟨(hexC (v % 16) :: l).toArray⟩ by rw [one_ba, hexS_at _ (Nat.mod_lt _ (by decide)), cons_ba])
    unfold hexS at HE
    by_cases hlt : v < 16
    · have hz : (v : Int) / 16 = 0 := by omega
      have HF := Lib.hid (show hexC (v % 16) :: l = hexD n by rw [HD.out, hexD_one hlt, Nat.mod_eq_of_lt hlt]; rfl)
      go_wp2_with fail
      go_ret
      refine ⟨?_, HB.out.alloc HB.out.size _⟩
      rw [← hexP_ba, ← HF.out]
      exact congrArg (fun s => Ending.returned (.string ((⟨#[92, 120, 123]⟩ : ByteArray) ++ s ++ ⟨#[125]⟩))) HE.out
    · have hz : ¬ ((v : Int) < 16) := by omega
      have hl6 : l.length ≠ 5 := by intro e; have := HV.out; rw [e] at this; simp at this; omega
      have HV2 := Lib.hid (show v / 16 < 16 ^ (6 - (l.length + 1)) by
        have := HV.out
        rw [show 6 - l.length = 6 - (l.length + 1) + 1 by omega, Nat.pow_succ] at this
        omega)
      have HD2 := Lib.hid (show hexD n = hexD (v / 16) ++ (hexC (v % 16) :: l) by rw [HD.out, hexD_more hlt]; simp)
      have hl7 : l.length ≤ 4 := by omega
      clear hl6
      go_wp2_with fail
      go_roundw
      case rel => exact ⟨v / 16, hexC (v % 16) :: l, by omega, by go_num, congrArg Value.string HE.out, HD2, HV2, by rw [List.length_cons]; omega, Lib.hid (HB.out.alloc HB.out.size _)⟩
      case measure => simp [intOf]; omega
theorem conv_dec (wr : World) (v : Nat) : strOfNums [48 + (v : Int) % 10] = ⟨#[UInt8.ofNat (48 + v % 10)]⟩ := by
  apply ByteArray.ext
  simp only [strOfNums, List.map_cons, List.map_nil]
  rw [show (48 + (v : Int) % 10).toNat = 48 + v % 10 by omega]
theorem dec_one {v : Nat} (h : v < 10) : Lib.decDigits v = [UInt8.ofNat (48 + v)] := by rw [Lib.decDigits, dif_pos h]
theorem dec_more {v : Nat} (h : ¬ v < 10) : Lib.decDigits v = Lib.decDigits (v / 10) ++ [UInt8.ofNat (48 + v % 10)] := by rw [Lib.decDigits, dif_neg h]
set_option maxRecDepth 100000 in
set_option maxHeartbeats 4000000 in
theorem decimal25 (n : Int) (w : World) (h0 : 0 ≤ n) (h1 : n ≤ 100) :
    Calls Tryd.prog 25 #[.int .i64 n] w fun e w' => e = .returned (.string ⟨(decT n).toArray⟩) ∧ Below w.heap.size w w' := by
  obtain ⟨n, rfl⟩ : ∃ m : Nat, n = m := ⟨n.toNat, by omega⟩
  have hn : n < 10000 := by omega
  have HT := Lib.hid (show decT (n : Int) = Lib.decDigits n by simp [decT])
  clear h0 h1
  go_enter Tryd.func25, Tryd.ntmps25
  go_wp2_with fail
  go_loopw [0, 3] (fun u s wr => ∃ (v : Nat) (l : List UInt8), v < 10000 ∧ u = .int .i64 v ∧ s = .string ⟨l.toArray⟩ ∧ Hid (Lib.decDigits n = Lib.decDigits v ++ l) ∧ Hid (v < 10 ^ (4 - l.length)) ∧ l.length ≤ 3 ∧ Hid (Below w.heap.size w wr)) (fun u _ _ => (intOf u).toNat)
  case atStart => exact ⟨n, [], hn, rfl, rfl, Lib.hid (by simp), Lib.hid (by simpa using hn), by simp, Lib.hid (Below.refl _ _)⟩
  case round =>
    obtain ⟨v, l, hv, rfl, rfl, HD, HV, hl, HB⟩ := hrel
    have hcv := conv_one wr
    have hss : ∀ x, (strOfNums [x]).size = 1 := fun x => strOfNums_size _
    have g3 : ¬ 9223372036854775807 < 1 + l.length := by omega
    have HE := Lib.hid (show strOfNums [48 + (v : Int) % 10] ++ ⟨l.toArray⟩ = ⟨(UInt8.ofNat (48 + v % 10) :: l).toArray⟩ by rw [conv_dec wr, cons_ba])
    by_cases hlt : v < 10
    · have hz : (v : Int) / 10 = 0 := by omega
      have HF := Lib.hid (show UInt8.ofNat (48 + v % 10) :: l = Lib.decDigits n by rw [HD.out, dec_one hlt, Nat.mod_eq_of_lt hlt]; rfl)
      go_wp2_with fail
      go_ret
      refine ⟨?_, HB.out.alloc HB.out.size _⟩
      rw [HT.out, ← HF.out]
      exact congrArg (fun s => Ending.returned (.string s)) HE.out
    · have hz : ¬ ((v : Int) < 10) := by omega
      have hl6 : l.length ≠ 3 := by intro e; have := HV.out; rw [e] at this; simp at this; omega
      have HV2 := Lib.hid (show v / 10 < 10 ^ (4 - (l.length + 1)) by
        have := HV.out
        rw [show 4 - l.length = 4 - (l.length + 1) + 1 by omega, Nat.pow_succ] at this
        omega)
      have HD2 := Lib.hid (show Lib.decDigits n = Lib.decDigits (v / 10) ++ (UInt8.ofNat (48 + v % 10) :: l) by rw [HD.out, dec_more hlt]; simp)
      have hl7 : l.length ≤ 2 := by omega
      clear hl6
      go_wp2_with fail
      go_roundw
      case rel => exact ⟨v / 10, UInt8.ofNat (48 + v % 10) :: l, by omega, by go_num, congrArg Value.string HE.out, HD2, HV2, by rw [List.length_cons]; omega, Lib.hid (HB.out.alloc HB.out.size _)⟩
      case measure => simp [intOf]; omega
end Go.Proofs.YtbekjfoefjnidaaDoor
