/- class of the program at what is no name; Class, IsClass, foldBegun: walked. -/
import Derived.Test.YtehlijnhhbdbhaaFoldN
namespace Go.Proofs.Ytehlijnhhbdbhaa
open Go.RowKit
set_option linter.unusedVariables false
/-- the class of a name -/
def cls (t : List UInt8) : Option (List (Int × Int)) :=
  if t = [97, 110, 121] then some l_any else if t = [97, 115, 99, 105, 105] then some l_ascii else if t = [99, 110, 116, 114, 108] then some l_cntrl else if t = [100, 105, 103, 105, 116] then some l_digit else if t = [120, 100, 105, 103, 105, 116] then some l_xdigit else if t = [98, 108, 97, 110, 107] then some l_blank else if t = [115, 112, 97, 99, 101] then some l_space else if t = [112, 117, 110, 99, 116] then some l_punct else if t = [97, 108, 112, 104, 97] then some l_alpha else if t = [117, 112, 112, 101, 114] then some l_upper else if t = [108, 111, 119, 101, 114] then some l_lower else if t = [97, 108, 110, 117, 109] then some l_alnum else if t = [119, 111, 114, 100] then some l_word else if t = [103, 114, 97, 112, 104] then some l_graph else none
theorem lit_eq {s : ByteArray} {l : List UInt8} (h : s.toList = l) : s = ⟨l.toArray⟩ := by
  obtain ⟨d⟩ := s
  rw [ByteArray.toList_eq] at h
  subst h
  rfl
theorem class_some (s : ByteArray) (l : List (Int × Int)) (w : World) (h : cls s.toList = some l) : Calls Try.prog 103 #[.string s] w (ClsOut w l) := by
  unfold cls at h
  by_cases e : s.toList = [97, 110, 121]
  · rw [if_pos e] at h; injection h with h; subst h; obtain rfl := lit_eq e; exact class_any w
  rw [if_neg e] at h
  clear e
  by_cases e : s.toList = [97, 115, 99, 105, 105]
  · rw [if_pos e] at h; injection h with h; subst h; obtain rfl := lit_eq e; exact class_ascii w
  rw [if_neg e] at h
  clear e
  by_cases e : s.toList = [99, 110, 116, 114, 108]
  · rw [if_pos e] at h; injection h with h; subst h; obtain rfl := lit_eq e; exact class_cntrl w
  rw [if_neg e] at h
  clear e
  by_cases e : s.toList = [100, 105, 103, 105, 116]
  · rw [if_pos e] at h; injection h with h; subst h; obtain rfl := lit_eq e; exact class_digit w
  rw [if_neg e] at h
  clear e
  by_cases e : s.toList = [120, 100, 105, 103, 105, 116]
  · rw [if_pos e] at h; injection h with h; subst h; obtain rfl := lit_eq e; exact class_xdigit w
  rw [if_neg e] at h
  clear e
  by_cases e : s.toList = [98, 108, 97, 110, 107]
  · rw [if_pos e] at h; injection h with h; subst h; obtain rfl := lit_eq e; exact class_blank w
  rw [if_neg e] at h
  clear e
  by_cases e : s.toList = [115, 112, 97, 99, 101]
  · rw [if_pos e] at h; injection h with h; subst h; obtain rfl := lit_eq e; exact class_space w
  rw [if_neg e] at h
  clear e
  by_cases e : s.toList = [112, 117, 110, 99, 116]
  · rw [if_pos e] at h; injection h with h; subst h; obtain rfl := lit_eq e; exact class_punct w
  rw [if_neg e] at h
  clear e
  by_cases e : s.toList = [97, 108, 112, 104, 97]
  · rw [if_pos e] at h; injection h with h; subst h; obtain rfl := lit_eq e; exact class_alpha w
  rw [if_neg e] at h
  clear e
  by_cases e : s.toList = [117, 112, 112, 101, 114]
  · rw [if_pos e] at h; injection h with h; subst h; obtain rfl := lit_eq e; exact class_upper w
  rw [if_neg e] at h
  clear e
  by_cases e : s.toList = [108, 111, 119, 101, 114]
  · rw [if_pos e] at h; injection h with h; subst h; obtain rfl := lit_eq e; exact class_lower w
  rw [if_neg e] at h
  clear e
  by_cases e : s.toList = [97, 108, 110, 117, 109]
  · rw [if_pos e] at h; injection h with h; subst h; obtain rfl := lit_eq e; exact class_alnum w
  rw [if_neg e] at h
  clear e
  by_cases e : s.toList = [119, 111, 114, 100]
  · rw [if_pos e] at h; injection h with h; subst h; obtain rfl := lit_eq e; exact class_word w
  rw [if_neg e] at h
  clear e
  by_cases e : s.toList = [103, 114, 97, 112, 104]
  · rw [if_pos e] at h; injection h with h; subst h; obtain rfl := lit_eq e; exact class_graph w
  rw [if_neg e] at h
  clear e
  cases h
theorem cls_none {t : List UInt8} (h : cls t = none) : t ≠ [97, 110, 121] ∧ t ≠ [97, 115, 99, 105, 105] ∧ t ≠ [99, 110, 116, 114, 108] ∧ t ≠ [100, 105, 103, 105, 116] ∧ t ≠ [120, 100, 105, 103, 105, 116] ∧ t ≠ [98, 108, 97, 110, 107] ∧ t ≠ [115, 112, 97, 99, 101] ∧ t ≠ [112, 117, 110, 99, 116] ∧ t ≠ [97, 108, 112, 104, 97] ∧ t ≠ [117, 112, 112, 101, 114] ∧ t ≠ [108, 111, 119, 101, 114] ∧ t ≠ [97, 108, 110, 117, 109] ∧ t ≠ [119, 111, 114, 100] ∧ t ≠ [103, 114, 97, 112, 104] := by
  unfold cls at h
  by_cases e0 : t = [97, 110, 121]
  · rw [if_pos e0] at h; cases h
  rw [if_neg e0] at h
  by_cases e1 : t = [97, 115, 99, 105, 105]
  · rw [if_pos e1] at h; cases h
  rw [if_neg e1] at h
  by_cases e2 : t = [99, 110, 116, 114, 108]
  · rw [if_pos e2] at h; cases h
  rw [if_neg e2] at h
  by_cases e3 : t = [100, 105, 103, 105, 116]
  · rw [if_pos e3] at h; cases h
  rw [if_neg e3] at h
  by_cases e4 : t = [120, 100, 105, 103, 105, 116]
  · rw [if_pos e4] at h; cases h
  rw [if_neg e4] at h
  by_cases e5 : t = [98, 108, 97, 110, 107]
  · rw [if_pos e5] at h; cases h
  rw [if_neg e5] at h
  by_cases e6 : t = [115, 112, 97, 99, 101]
  · rw [if_pos e6] at h; cases h
  rw [if_neg e6] at h
  by_cases e7 : t = [112, 117, 110, 99, 116]
  · rw [if_pos e7] at h; cases h
  rw [if_neg e7] at h
  by_cases e8 : t = [97, 108, 112, 104, 97]
  · rw [if_pos e8] at h; cases h
  rw [if_neg e8] at h
  by_cases e9 : t = [117, 112, 112, 101, 114]
  · rw [if_pos e9] at h; cases h
  rw [if_neg e9] at h
  by_cases e10 : t = [108, 111, 119, 101, 114]
  · rw [if_pos e10] at h; cases h
  rw [if_neg e10] at h
  by_cases e11 : t = [97, 108, 110, 117, 109]
  · rw [if_pos e11] at h; cases h
  rw [if_neg e11] at h
  by_cases e12 : t = [119, 111, 114, 100]
  · rw [if_pos e12] at h; cases h
  rw [if_neg e12] at h
  by_cases e13 : t = [103, 114, 97, 112, 104]
  · rw [if_pos e13] at h; cases h
  rw [if_neg e13] at h
  exact ⟨e0, e1, e2, e3, e4, e5, e6, e7, e8, e9, e10, e11, e12, e13⟩
set_option maxRecDepth 100000 in
set_option maxHeartbeats 2000000 in
theorem class_none (s : ByteArray) (w : World) (h : cls s.toList = none) :
    Calls Try.prog 103 #[.string s] w fun e w' => e = .returned (.tuple #[.slice none 0 0, .bool false]) ∧ w = w' := by
  obtain ⟨h0, h1, h2, h3, h4, h5, h6, h7, h8, h9, h10, h11, h12, h13⟩ := cls_none h
  have b0 : (s.toList == [97, 110, 121]) = false := beq_eq_false_iff_ne.2 h0
  have b1 : (s.toList == [97, 115, 99, 105, 105]) = false := beq_eq_false_iff_ne.2 h1
  have b2 : (s.toList == [99, 110, 116, 114, 108]) = false := beq_eq_false_iff_ne.2 h2
  have b3 : (s.toList == [100, 105, 103, 105, 116]) = false := beq_eq_false_iff_ne.2 h3
  have b4 : (s.toList == [120, 100, 105, 103, 105, 116]) = false := beq_eq_false_iff_ne.2 h4
  have b5 : (s.toList == [98, 108, 97, 110, 107]) = false := beq_eq_false_iff_ne.2 h5
  have b6 : (s.toList == [115, 112, 97, 99, 101]) = false := beq_eq_false_iff_ne.2 h6
  have b7 : (s.toList == [112, 117, 110, 99, 116]) = false := beq_eq_false_iff_ne.2 h7
  have b8 : (s.toList == [97, 108, 112, 104, 97]) = false := beq_eq_false_iff_ne.2 h8
  have b9 : (s.toList == [117, 112, 112, 101, 114]) = false := beq_eq_false_iff_ne.2 h9
  have b10 : (s.toList == [108, 111, 119, 101, 114]) = false := beq_eq_false_iff_ne.2 h10
  have b11 : (s.toList == [97, 108, 110, 117, 109]) = false := beq_eq_false_iff_ne.2 h11
  have b12 : (s.toList == [119, 111, 114, 100]) = false := beq_eq_false_iff_ne.2 h12
  have b13 : (s.toList == [103, 114, 97, 112, 104]) = false := beq_eq_false_iff_ne.2 h13
  clear h h0 h1 h2 h3 h4 h5 h6 h7 h8 h9 h10 h11 h12 h13
  go_enter Try.func103, Try.ntmps103
  go_wp2
  go_ret2
  exact ⟨rfl, rfl⟩
set_option maxRecDepth 100000 in
set_option maxHeartbeats 2000000 in
theorem class56 (s : ByteArray) (l : List (Int × Int)) (w : World) (h : cls s.toList = some l) : Calls Try.prog 56 #[.string s] w fun e w' => ∃ out A n c, e = .returned (.tuple #[.slice A n c, .int .i64 0]) ∧ n ≤ c ∧ c ≤ maxLen ∧ Hid (IsSet out (mem l)) ∧ Hid (out.length ≤ 200) ∧ Hid (out.length = n) ∧ Hid (Rds w' w'.heap.size 2 A n (rngs out)) ∧ Below w.heap.size w w' := by
  have C := Lib.hid (class_some s l w h)
  clear h
  go_enter Try.func56, Try.ntmps56
  go_wp2_with fail
  refine C.out.mono ?_
  rintro e w1 ⟨out, A, n, c, rfl, hs, hl, hown, hb⟩
  have S := Lib.hid hs
  have L := Lib.hid hl
  have O := Lib.hid hown
  obtain ⟨_, _, hv, q1, q2⟩ := own_slice hown
  injection hv with e1 e2 e3
  subst e1 e3
  clear e2 hown hs hl
  go_wp2
  go_ret2
  exact ⟨out, A, n, c, rfl, q1, q2, S, L, Lib.hid (own_rngs_len O.out).symm, Lib.hid (Rds.of_own O.out), hb⟩
set_option maxRecDepth 100000 in
set_option maxHeartbeats 2000000 in
theorem class56_none (s : ByteArray) (w : World) (h : cls s.toList = none) : Calls Try.prog 56 #[.string s] w fun e w' => e = .returned (.tuple #[.slice none 0 0, .int .i64 5]) ∧ w = w' := by
  have C := Lib.hid (class_none s w h)
  clear h
  go_enter Try.func56, Try.ntmps56
  go_wp2_with fail
  refine C.out.mono ?_
  rintro e w1 ⟨rfl, rfl⟩
  go_wp2
  go_ret2
  exact ⟨rfl, rfl⟩
set_option maxRecDepth 100000 in
theorem lst_k : lst 107 = 75 := by decide +kernel
set_option maxRecDepth 100000 in
set_option maxHeartbeats 2000000 in
theorem foldBegun58 (w : World) : Calls Try.prog 58 #[] w fun en w' => en = .returned (.bool true) ∧ Below w.heap.size w w' := by
  have C1 := Lib.hid (least61 107 w (by decide) (by decide))
  rw [lst_k] at C1
  have C2 := Lib.hid (fun w => class56 ⟨#[98, 108, 97, 110, 107]⟩ l_blank w (by rw [ByteArray.toList_eq]; rfl))
  go_enter Try.func58, Try.ntmps58
  go_wp2_with fail
  refine C1.out.mono ?_
  rintro e w1 ⟨rfl, hb1⟩
  go_wp2_with fail
  refine (C2.out w1).mono ?_
  rintro e w2 ⟨out, A, n, c, rfl, q1, q2, S, L, LN, R, hb2⟩
  have hn : n = 2 := by rw [← LN.out, len_of (l := l_blank) (by decide) S.out]; rfl
  subst hn
  go_wp2
  go_ret
  exact ⟨rfl, below_next hb1 hb2⟩
def nms : List ByteArray := [⟨#[97, 110, 121]⟩, ⟨#[97, 115, 99, 105, 105]⟩, ⟨#[99, 110, 116, 114, 108]⟩, ⟨#[100, 105, 103, 105, 116]⟩, ⟨#[120, 100, 105, 103, 105, 116]⟩, ⟨#[98, 108, 97, 110, 107]⟩, ⟨#[115, 112, 97, 99, 101]⟩, ⟨#[112, 117, 110, 99, 116]⟩, ⟨#[97, 108, 112, 104, 97]⟩, ⟨#[117, 112, 112, 101, 114]⟩, ⟨#[108, 111, 119, 101, 114]⟩, ⟨#[97, 108, 110, 117, 109]⟩, ⟨#[119, 111, 114, 100]⟩, ⟨#[103, 114, 97, 112, 104]⟩]
def strs (l : List ByteArray) : List Value := l.map .string
theorem strs_get (l : List ByteArray) (k : Nat) (h : k < l.length) : (strs l)[k]? = some (.string l[k]) := by simp [strs, h]
theorem Rds.str_at {w : World} {B n : Nat} {A : Option Addr} {l : List ByteArray} (h : Rds w B 1 A n (strs l)) {k : Nat} (hk : k < n) :
    ∃ b off, ∃ hl : k < l.length, A = some ⟨b, off, none⟩ ∧ b < B ∧ w.cell? ⟨b, off + k, none⟩ = some (.string l[k]) := by
  obtain ⟨b, off, e, hb, hc⟩ := h.2 (by omega)
  have hl : k < l.length := by have := h.1; simp [strs] at this; omega
  exact ⟨b, off, hl, e, hb, hc _ _ (strs_get l k hl)⟩
/-- is the list of bytes one of the names? -/
def isNm (l : List ByteArray) (t : List UInt8) : Bool := l.any fun b => b.toList == t
theorem isNm_snoc (l : List ByteArray) (b : ByteArray) (t : List UInt8) : isNm (l ++ [b]) t = (isNm l t || b.toList == t) := by simp [isNm]
theorem isNm_at {l : List ByteArray} {t : List UInt8} (k : Nat) (h : k < l.length) (hx : (l[k].toList == t) = true) : isNm l t = true := by
  simp only [isNm, List.any_eq_true]; exact ⟨_, List.getElem_mem h, hx⟩
theorem isNm_cls (t : List UInt8) : isNm nms t = (cls t).isSome := by
  simp only [isNm, nms, ByteArray.toList_eq, List.any_cons, List.any_nil, cls, Bool.or_false]
  by_cases e0 : t = [97, 110, 121]
  · subst e0; decide
  rw [if_neg e0]
  by_cases e1 : t = [97, 115, 99, 105, 105]
  · subst e1; decide
  rw [if_neg e1]
  by_cases e2 : t = [99, 110, 116, 114, 108]
  · subst e2; decide
  rw [if_neg e2]
  by_cases e3 : t = [100, 105, 103, 105, 116]
  · subst e3; decide
  rw [if_neg e3]
  by_cases e4 : t = [120, 100, 105, 103, 105, 116]
  · subst e4; decide
  rw [if_neg e4]
  by_cases e5 : t = [98, 108, 97, 110, 107]
  · subst e5; decide
  rw [if_neg e5]
  by_cases e6 : t = [115, 112, 97, 99, 101]
  · subst e6; decide
  rw [if_neg e6]
  by_cases e7 : t = [112, 117, 110, 99, 116]
  · subst e7; decide
  rw [if_neg e7]
  by_cases e8 : t = [97, 108, 112, 104, 97]
  · subst e8; decide
  rw [if_neg e8]
  by_cases e9 : t = [117, 112, 112, 101, 114]
  · subst e9; decide
  rw [if_neg e9]
  by_cases e10 : t = [108, 111, 119, 101, 114]
  · subst e10; decide
  rw [if_neg e10]
  by_cases e11 : t = [97, 108, 110, 117, 109]
  · subst e11; decide
  rw [if_neg e11]
  by_cases e12 : t = [119, 111, 114, 100]
  · subst e12; decide
  rw [if_neg e12]
  by_cases e13 : t = [103, 114, 97, 112, 104]
  · subst e13; decide
  rw [if_neg e13]
  simp [Ne.symm e0, Ne.symm e1, Ne.symm e2, Ne.symm e3, Ne.symm e4, Ne.symm e5, Ne.symm e6, Ne.symm e7, Ne.symm e8, Ne.symm e9, Ne.symm e10, Ne.symm e11, Ne.symm e12, Ne.symm e13]
set_option maxRecDepth 100000 in
set_option maxHeartbeats 2000000 in
theorem names104 (w : World) : Calls Try.prog 104 #[] w fun e w' => ∃ g, e = .returned (.slice (some ⟨g, 0, none⟩) 14 14) ∧ Rds w' w'.heap.size 1 (some ⟨g, 0, none⟩) 14 (strs nms) ∧ Below w.heap.size w w' := by
  have R := Lib.hid (Rds.new w 1 14 (strs nms).toArray 9 (strs nms) (by simp) rfl)
  go_enter Try.func104, Try.ntmps104
  go_wp2
  go_ret
  refine ⟨w.heap.size, rfl, ?_, by go_grown⟩
  exact R.out.more (by simp)
set_option maxRecDepth 100000 in
set_option maxHeartbeats 2000000 in
theorem isClass57 (s : ByteArray) (v : Bool) (hv : (cls s.toList).isSome = v) (w : World) : Calls Try.prog 57 #[.string s] w fun e w' => e = .returned (.bool v) ∧ Below w.heap.size w w' := by
  have HV := Lib.hid ((isNm_cls s.toList).trans hv)
  clear hv
  go_enter Try.func57, Try.ntmps57
  go_wp2_with fail
  refine (names104 w).mono ?_
  rintro e w1 ⟨g, rfl, ha, hb⟩
  go_wp2_with fail
  go_loop [4] (fun i => ∃ k : Nat, k ≤ 14 ∧ i = .int .i64 k ∧ isNm (nms.take k) s.toList = false) (fun i => 14 - (intOf i).toNat)
  case atStart => exact ⟨0, Nat.zero_le _, rfl, rfl⟩
  case round =>
    obtain ⟨k, hk, rfl, hall⟩ := hrel
    have HALL := Lib.hid hall
    clear hall
    by_cases hlt : k < 14
    · obtain ⟨b1, off1, hl1, hA, hb1, hc1⟩ := ha.str_at hlt
      injection hA with hA
      injection hA with e1 e2
      subst e1 e2
      have HT := Lib.hid (take_snoc' nms k hl1)
      have HM := Lib.hid (isNm_at (t := s.toList) k hl1)
      obtain ⟨y, hy⟩ : ∃ r, r = nms[k] := ⟨_, rfl⟩
      rw [← hy] at hc1 HT HM
      clear hy
      simp only [Nat.zero_add] at hc1
      have k2 : (k : Int) < 14 := by omega
      cases hxy : (y.toList == s.toList)
      · have HXY := Lib.hid hxy
        go_wp2
        go_round
        case rel => exact ⟨k + 1, by omega, by go_num, by rw [HT.out, isNm_snoc, HALL.out, HXY.out]; rfl⟩
        case measure => simp [intOf]; omega
      · have HXY := Lib.hid hxy
        go_wp2
        go_ret
        exact ⟨ret_bool ((HV.out.symm.trans (HM.out HXY.out)).symm), hb⟩
    · obtain rfl : k = 14 := by omega
      go_wp2
      go_ret
      exact ⟨ret_bool (HALL.out.symm.trans HV.out), hb⟩
end Go.Proofs.Ytehlijnhhbdbhaa
