/-
  Encode, walked: what it answers is encE.
-/
import Derived.Test.YtlgpnofkfpeacaaEncD
namespace Go.Proofs.Ytlgpnofkfpeacaa
open Go.RowKit
set_option linter.unusedVariables false
def outStep (enc : Int) (out : List Int) (p : Int) : List Int := if out.length ≤ 4000 then out ++ bytesOf enc p else out
def outOf (enc : Int) (l : List Int) : List Int := l.foldl (outStep enc) []
theorem bytesOf_len (enc p : Int) : (bytesOf enc p).length ≤ 4 := by
  unfold bytesOf
  split
  · simp
  · split
    · split
      · simp
      · split
        · simp
        · split <;> simp
    · split
      · rw [unitB_len]; omega
      · rw [List.length_append, unitB_len, unitB_len]; omega
theorem outStep_len (enc : Int) (out : List Int) (p : Int) (h : out.length ≤ 4004) : (outStep enc out p).length ≤ 4004 := by
  unfold outStep
  split
  · have := bytesOf_len enc p
    rw [List.length_append]; omega
  · exact h
theorem outOf_snoc (enc : Int) (l : List Int) (p : Int) : outOf enc (l ++ [p]) = outStep enc (outOf enc l) p := by simp [outOf]
theorem foldl_inv {α β : Type} (P : β → Prop) (f : β → α → β) (hf : ∀ b a, P b → P (f b a)) : ∀ (l : List α) (b : β), P b → P (l.foldl f b) := by
  intro l
  induction l with
  | nil => intro b h; exact h
  | cons a l ih => intro b h; exact ih _ (hf _ _ h)
theorem outOf_len (enc : Int) (l : List Int) : (outOf enc l).length ≤ 4004 := foldl_inv (fun o => o.length ≤ 4004) (outStep enc) (fun b a h => outStep_len enc b a h) l [] (by simp)
def encE (enc : Int) (l : List Int) : ByteArray × Int :=
  if encB enc = false then (⟨#[]⟩, 7) else if l.all (scalarB enc) = false then (⟨#[]⟩, 3) else if 4000 < (outOf enc l).length then (⟨#[]⟩, 2) else (strOf (outOf enc l), 0)
theorem encE_no (enc : Int) (l : List Int) (h : encB enc = false) : encE enc l = (⟨#[]⟩, 7) := by simp [encE, h]
theorem encE_range (enc : Int) (l : List Int) (h : encB enc = true) (k : Nat) (hk : k < l.length) (hs : scalarB enc l[k] = false) : encE enc l = (⟨#[]⟩, 3) := by
  have : l.all (scalarB enc) = false := by
    rw [List.all_eq_false]
    exact ⟨l[k], List.getElem_mem hk, by simp [hs]⟩
  simp [encE, h, this]
theorem encE_many (enc : Int) (l : List Int) (h : encB enc = true) (ha : l.all (scalarB enc) = true) (hm : 4000 < (outOf enc l).length) : encE enc l = (⟨#[]⟩, 2) := by simp [encE, h, ha, hm]
theorem encE_ok (enc : Int) (l : List Int) (h : encB enc = true) (ha : l.all (scalarB enc) = true) (hm : (outOf enc l).length ≤ 4000) : encE enc l = (strOf (outOf enc l), 0) := by
  simp [encE, h, ha]; omega
theorem take_snoc' (l : List Int) (k : Nat) (h : k < l.length) : l.take (k + 1) = l.take k ++ [l[k]] := by
  rw [List.take_succ_eq_append_getElem h]
def EncPost (w : World) (r : ByteArray × Int) (e : Ending) (w' : World) : Prop := e = .returned (.tuple #[.string r.1, .int .i64 r.2]) ∧ Below w.heap.size w w'

theorem encRet {w w' : World} {r : ByteArray × Int} {s : ByteArray} {n : Int} (h : r = (s, n)) (hb : Below w.heap.size w w') : EncPost w r (.returned (.tuple #[.string s, .int .i64 n])) w' := ⟨by rw [h], hb⟩
theorem scalar_bounds {enc p : Int} (h : scalarB enc p = true) : 0 ≤ p ∧ p ≤ 1114111 ∧ (enc = 4 → p ≤ 255) ∧ (enc ≠ 4 → p < 55296 ∨ 57343 < p) := by
  unfold scalarB at h
  split at h
  · simp at h; exact ⟨h.1, by omega, fun _ => by omega, fun hh => by contradiction⟩
  · simp at h; exact ⟨h.1.1, h.1.2, fun hh => by contradiction, fun _ => h.2⟩

theorem bytes2 (p : Int) (w : World) (h0 : 0 ≤ p) (h1 : p ≤ 1114111) : Calls Try.prog 56 #[.agg #[.bool true], .int .i64 p] w (OwnBytes w (bytesOf 2 p)) := bytes16 true p w h0 h1
theorem bytes3 (p : Int) (w : World) (h0 : 0 ≤ p) (h1 : p ≤ 1114111) : Calls Try.prog 56 #[.agg #[.bool false], .int .i64 p] w (OwnBytes w (bytesOf 3 p)) := bytes16 false p w h0 h1
set_option maxHeartbeats 1000000 in
theorem encode1 (l : List Int) (A : Option Addr) (n c : Nat) (w : World) (hn : n ≤ c) (hc : c ≤ maxLen) (hl : Rds w w.heap.size 1 A n (ints l)) :
    Calls Try.prog 15 #[.int .i64 1, .slice A n c] w (EncPost w (encE 1 l)) := by
  have HL := Lib.hid hl.ints_len
  unfold maxLen at hc
  go_enter Try.func15, Try.ntmps15
  go_wp2_with (go_at_call 25; refine (of_1 _).mono ?_; rintro e w' ⟨rfl, rfl⟩)
  go_loopw [7, 16] (fun v i wr => ∃ k m : Nat, k ≤ n ∧ i = .int .i64 k ∧ (l.take k).all (scalarB 1) = true ∧ wr.ownsRow w.heap.size 5 1 v m (byts (outOf 1 (l.take k))) ∧ Below w.heap.size w wr) (fun _ i _ => n - (intOf i).toNat)
  case atStart => exact ⟨0, 0, Nat.zero_le _, rfl, by simp, own_nil_bytes _ _, Below.refl _ _⟩
  case round =>
    obtain ⟨k, m, hk, rfl, hall, hown, hB⟩ := hrel
    obtain ⟨Av, cv, rfl, hmc, hcv⟩ := own_slice hown
    have hm : m ≤ 4004 := by rw [own_byts_len hown]; exact outOf_len _ _
    have HALL := Lib.hid hall
    clear hall
    unfold maxLen at hcv
    by_cases hlt : k < n
    · obtain ⟨b, off, hkl, hA, hb, hcell⟩ := (hl.below hB (Nat.le_refl _)).int_at hlt
      subst hA
      have HT := Lib.hid (take_snoc' l k hkl)
      have HN := Lib.hid (fun hh => encE_range 1 l rfl k hkl hh)
      obtain ⟨p, hp⟩ : ∃ p, p = l[k] := ⟨_, rfl⟩
      rw [← hp] at hcell HT HN
      clear hp
      have HSN := Lib.hid (outOf_snoc 1 (l.take k) p)
      cases hs : scalarB 1 p
      · have HS := Lib.hid hs
        clear hs
        go_wp2_with (go_at_call 26; refine (scalar_any _ _ _).mono ?_; rintro e w' ⟨rfl, rfl⟩; rw [HS.out])
        go_ret2
        exact encRet (HN.out HS.out) hB
      · have HS := Lib.hid hs
        have HP := Lib.hid (scalar_bounds hs)
        clear hs
        by_cases hm2 : m ≤ 4000
        · go_wp2_with fail
          refine (scalar_any _ _ _).mono ?_; rintro e w' ⟨rfl, rfl⟩; rw [HS.out]
          obtain ⟨q1, q2, q3, q4⟩ := HP.out
          go_wp2_with (first
            | (go_at_call 49; refine (bytes1 p _ q1 q2 (q4 (by decide))).mono ?_; rintro e w2 ⟨A2, n2, c2, rfl, hown2, hb2⟩; have hsz2 := hb2.size; have hsz := hB.size; have hlen2 : n2 ≤ 4 := by (rw [own_byts_len hown2]; exact bytesOf_len _ _))
            | (at_builtin; refine app_bytes (.tmp 27) (.tmp 30) (own_below hown hb2 (Nat.le_refl _)) (Rds.of_own hown2) (by omega) (by omega) rfl rfl rfl rfl ?_; intro v3 w3 hown3 hg3 hat3))
          go_roundw
          case rel => exact ⟨k + 1, m + n2, by omega, by go_num, by rw [HT.out, List.all_append, HALL.out]; simp [HS.out], by rw [HT.out, HSN.out, outStep, if_pos (by rw [← own_byts_len hown]; omega)]; exact hown3, grown_own (hB.trans (hb2.mono hsz)) (own_below hown hb2 (Nat.le_refl _)) hg3 (Nat.le_refl _) (by omega)⟩
          case measure => simp [intOf]; omega
        · go_wp2_with (go_at_call 26; refine (scalar_any _ _ _).mono ?_; rintro e w' ⟨rfl, rfl⟩; rw [HS.out])
          go_roundw
          case rel => exact ⟨k + 1, m, by omega, by go_num, by rw [HT.out, List.all_append, HALL.out]; simp [HS.out], by rw [HT.out, HSN.out, outStep, if_neg (by rw [← own_byts_len hown]; omega)]; exact hown, hB⟩
          case measure => simp [intOf]; omega
    · obtain rfl : k = n := by omega
      have HT := Lib.hid (show l.take k = l from List.take_of_length_le (by rw [HL.out]; exact Nat.le_refl _))
      rw [HT.out] at hown HALL
      have hstr := run_str (c := cv) (Rds.of_own hown)
      by_cases hm2 : m ≤ 4000
      · have HE := Lib.hid (encE_ok 1 l rfl HALL.out (by rw [← own_byts_len hown]; exact hm2))
        go_wp2
        go_ret2
        exact encRet HE.out hB
      · have HE := Lib.hid (encE_many 1 l rfl HALL.out (by rw [← own_byts_len hown]; omega))
        go_wp2
        go_ret2
        exact encRet HE.out hB
set_option maxHeartbeats 1000000 in
theorem encode2 (l : List Int) (A : Option Addr) (n c : Nat) (w : World) (hn : n ≤ c) (hc : c ≤ maxLen) (hl : Rds w w.heap.size 1 A n (ints l)) :
    Calls Try.prog 15 #[.int .i64 2, .slice A n c] w (EncPost w (encE 2 l)) := by
  have HL := Lib.hid hl.ints_len
  unfold maxLen at hc
  go_enter Try.func15, Try.ntmps15
  go_wp2_with (go_at_call 25; refine (of_2 _).mono ?_; rintro e w' ⟨rfl, rfl⟩)
  go_loopw [7, 16] (fun v i wr => ∃ k m : Nat, k ≤ n ∧ i = .int .i64 k ∧ (l.take k).all (scalarB 2) = true ∧ wr.ownsRow w.heap.size 5 1 v m (byts (outOf 2 (l.take k))) ∧ Below w.heap.size w wr) (fun _ i _ => n - (intOf i).toNat)
  case atStart => exact ⟨0, 0, Nat.zero_le _, rfl, by simp, own_nil_bytes _ _, Below.refl _ _⟩
  case round =>
    obtain ⟨k, m, hk, rfl, hall, hown, hB⟩ := hrel
    obtain ⟨Av, cv, rfl, hmc, hcv⟩ := own_slice hown
    have hm : m ≤ 4004 := by rw [own_byts_len hown]; exact outOf_len _ _
    have HALL := Lib.hid hall
    clear hall
    unfold maxLen at hcv
    by_cases hlt : k < n
    · obtain ⟨b, off, hkl, hA, hb, hcell⟩ := (hl.below hB (Nat.le_refl _)).int_at hlt
      subst hA
      have HT := Lib.hid (take_snoc' l k hkl)
      have HN := Lib.hid (fun hh => encE_range 2 l rfl k hkl hh)
      obtain ⟨p, hp⟩ : ∃ p, p = l[k] := ⟨_, rfl⟩
      rw [← hp] at hcell HT HN
      clear hp
      have HSN := Lib.hid (outOf_snoc 2 (l.take k) p)
      cases hs : scalarB 2 p
      · have HS := Lib.hid hs
        clear hs
        go_wp2_with (go_at_call 26; refine (scalar_any _ _ _).mono ?_; rintro e w' ⟨rfl, rfl⟩; rw [HS.out])
        go_ret2
        exact encRet (HN.out HS.out) hB
      · have HS := Lib.hid hs
        have HP := Lib.hid (scalar_bounds hs)
        clear hs
        by_cases hm2 : m ≤ 4000
        · go_wp2_with fail
          refine (scalar_any _ _ _).mono ?_; rintro e w' ⟨rfl, rfl⟩; rw [HS.out]
          obtain ⟨q1, q2, q3, q4⟩ := HP.out
          go_wp2_with (first
            | (go_at_call 56; refine (bytes2 p _ q1 q2).mono ?_; rintro e w2 ⟨A2, n2, c2, rfl, hown2, hb2⟩; have hsz2 := hb2.size; have hsz := hB.size; have hlen2 : n2 ≤ 4 := by (rw [own_byts_len hown2]; exact bytesOf_len _ _))
            | (at_builtin; refine app_bytes (.tmp 27) (.tmp 30) (own_below hown hb2 (Nat.le_refl _)) (Rds.of_own hown2) (by omega) (by omega) rfl rfl rfl rfl ?_; intro v3 w3 hown3 hg3 hat3))
          go_roundw
          case rel => exact ⟨k + 1, m + n2, by omega, by go_num, by rw [HT.out, List.all_append, HALL.out]; simp [HS.out], by rw [HT.out, HSN.out, outStep, if_pos (by rw [← own_byts_len hown]; omega)]; exact hown3, grown_own (hB.trans (hb2.mono hsz)) (own_below hown hb2 (Nat.le_refl _)) hg3 (Nat.le_refl _) (by omega)⟩
          case measure => simp [intOf]; omega
        · go_wp2_with (go_at_call 26; refine (scalar_any _ _ _).mono ?_; rintro e w' ⟨rfl, rfl⟩; rw [HS.out])
          go_roundw
          case rel => exact ⟨k + 1, m, by omega, by go_num, by rw [HT.out, List.all_append, HALL.out]; simp [HS.out], by rw [HT.out, HSN.out, outStep, if_neg (by rw [← own_byts_len hown]; omega)]; exact hown, hB⟩
          case measure => simp [intOf]; omega
    · obtain rfl : k = n := by omega
      have HT := Lib.hid (show l.take k = l from List.take_of_length_le (by rw [HL.out]; exact Nat.le_refl _))
      rw [HT.out] at hown HALL
      have hstr := run_str (c := cv) (Rds.of_own hown)
      by_cases hm2 : m ≤ 4000
      · have HE := Lib.hid (encE_ok 2 l rfl HALL.out (by rw [← own_byts_len hown]; exact hm2))
        go_wp2
        go_ret2
        exact encRet HE.out hB
      · have HE := Lib.hid (encE_many 2 l rfl HALL.out (by rw [← own_byts_len hown]; omega))
        go_wp2
        go_ret2
        exact encRet HE.out hB
set_option maxHeartbeats 1000000 in
theorem encode3 (l : List Int) (A : Option Addr) (n c : Nat) (w : World) (hn : n ≤ c) (hc : c ≤ maxLen) (hl : Rds w w.heap.size 1 A n (ints l)) :
    Calls Try.prog 15 #[.int .i64 3, .slice A n c] w (EncPost w (encE 3 l)) := by
  have HL := Lib.hid hl.ints_len
  unfold maxLen at hc
  go_enter Try.func15, Try.ntmps15
  go_wp2_with (go_at_call 25; refine (of_3 _).mono ?_; rintro e w' ⟨rfl, rfl⟩)
  go_loopw [7, 16] (fun v i wr => ∃ k m : Nat, k ≤ n ∧ i = .int .i64 k ∧ (l.take k).all (scalarB 3) = true ∧ wr.ownsRow w.heap.size 5 1 v m (byts (outOf 3 (l.take k))) ∧ Below w.heap.size w wr) (fun _ i _ => n - (intOf i).toNat)
  case atStart => exact ⟨0, 0, Nat.zero_le _, rfl, by simp, own_nil_bytes _ _, Below.refl _ _⟩
  case round =>
    obtain ⟨k, m, hk, rfl, hall, hown, hB⟩ := hrel
    obtain ⟨Av, cv, rfl, hmc, hcv⟩ := own_slice hown
    have hm : m ≤ 4004 := by rw [own_byts_len hown]; exact outOf_len _ _
    have HALL := Lib.hid hall
    clear hall
    unfold maxLen at hcv
    by_cases hlt : k < n
    · obtain ⟨b, off, hkl, hA, hb, hcell⟩ := (hl.below hB (Nat.le_refl _)).int_at hlt
      subst hA
      have HT := Lib.hid (take_snoc' l k hkl)
      have HN := Lib.hid (fun hh => encE_range 3 l rfl k hkl hh)
      obtain ⟨p, hp⟩ : ∃ p, p = l[k] := ⟨_, rfl⟩
      rw [← hp] at hcell HT HN
      clear hp
      have HSN := Lib.hid (outOf_snoc 3 (l.take k) p)
      cases hs : scalarB 3 p
      · have HS := Lib.hid hs
        clear hs
        go_wp2_with (go_at_call 26; refine (scalar_any _ _ _).mono ?_; rintro e w' ⟨rfl, rfl⟩; rw [HS.out])
        go_ret2
        exact encRet (HN.out HS.out) hB
      · have HS := Lib.hid hs
        have HP := Lib.hid (scalar_bounds hs)
        clear hs
        by_cases hm2 : m ≤ 4000
        · go_wp2_with fail
          refine (scalar_any _ _ _).mono ?_; rintro e w' ⟨rfl, rfl⟩; rw [HS.out]
          obtain ⟨q1, q2, q3, q4⟩ := HP.out
          go_wp2_with (first
            | (go_at_call 56; refine (bytes3 p _ q1 q2).mono ?_; rintro e w2 ⟨A2, n2, c2, rfl, hown2, hb2⟩; have hsz2 := hb2.size; have hsz := hB.size; have hlen2 : n2 ≤ 4 := by (rw [own_byts_len hown2]; exact bytesOf_len _ _))
            | (at_builtin; refine app_bytes (.tmp 27) (.tmp 30) (own_below hown hb2 (Nat.le_refl _)) (Rds.of_own hown2) (by omega) (by omega) rfl rfl rfl rfl ?_; intro v3 w3 hown3 hg3 hat3))
          go_roundw
          case rel => exact ⟨k + 1, m + n2, by omega, by go_num, by rw [HT.out, List.all_append, HALL.out]; simp [HS.out], by rw [HT.out, HSN.out, outStep, if_pos (by rw [← own_byts_len hown]; omega)]; exact hown3, grown_own (hB.trans (hb2.mono hsz)) (own_below hown hb2 (Nat.le_refl _)) hg3 (Nat.le_refl _) (by omega)⟩
          case measure => simp [intOf]; omega
        · go_wp2_with (go_at_call 26; refine (scalar_any _ _ _).mono ?_; rintro e w' ⟨rfl, rfl⟩; rw [HS.out])
          go_roundw
          case rel => exact ⟨k + 1, m, by omega, by go_num, by rw [HT.out, List.all_append, HALL.out]; simp [HS.out], by rw [HT.out, HSN.out, outStep, if_neg (by rw [← own_byts_len hown]; omega)]; exact hown, hB⟩
          case measure => simp [intOf]; omega
    · obtain rfl : k = n := by omega
      have HT := Lib.hid (show l.take k = l from List.take_of_length_le (by rw [HL.out]; exact Nat.le_refl _))
      rw [HT.out] at hown HALL
      have hstr := run_str (c := cv) (Rds.of_own hown)
      by_cases hm2 : m ≤ 4000
      · have HE := Lib.hid (encE_ok 3 l rfl HALL.out (by rw [← own_byts_len hown]; exact hm2))
        go_wp2
        go_ret2
        exact encRet HE.out hB
      · have HE := Lib.hid (encE_many 3 l rfl HALL.out (by rw [← own_byts_len hown]; omega))
        go_wp2
        go_ret2
        exact encRet HE.out hB
set_option maxHeartbeats 1000000 in
theorem encode4 (l : List Int) (A : Option Addr) (n c : Nat) (w : World) (hn : n ≤ c) (hc : c ≤ maxLen) (hl : Rds w w.heap.size 1 A n (ints l)) :
    Calls Try.prog 15 #[.int .i64 4, .slice A n c] w (EncPost w (encE 4 l)) := by
  have HL := Lib.hid hl.ints_len
  unfold maxLen at hc
  go_enter Try.func15, Try.ntmps15
  go_wp2_with (go_at_call 25; refine (of_4 _).mono ?_; rintro e w' ⟨rfl, rfl⟩)
  go_loopw [7, 16] (fun v i wr => ∃ k m : Nat, k ≤ n ∧ i = .int .i64 k ∧ (l.take k).all (scalarB 4) = true ∧ wr.ownsRow w.heap.size 5 1 v m (byts (outOf 4 (l.take k))) ∧ Below w.heap.size w wr) (fun _ i _ => n - (intOf i).toNat)
  case atStart => exact ⟨0, 0, Nat.zero_le _, rfl, by simp, own_nil_bytes _ _, Below.refl _ _⟩
  case round =>
    obtain ⟨k, m, hk, rfl, hall, hown, hB⟩ := hrel
    obtain ⟨Av, cv, rfl, hmc, hcv⟩ := own_slice hown
    have hm : m ≤ 4004 := by rw [own_byts_len hown]; exact outOf_len _ _
    have HALL := Lib.hid hall
    clear hall
    unfold maxLen at hcv
    by_cases hlt : k < n
    · obtain ⟨b, off, hkl, hA, hb, hcell⟩ := (hl.below hB (Nat.le_refl _)).int_at hlt
      subst hA
      have HT := Lib.hid (take_snoc' l k hkl)
      have HN := Lib.hid (fun hh => encE_range 4 l rfl k hkl hh)
      obtain ⟨p, hp⟩ : ∃ p, p = l[k] := ⟨_, rfl⟩
      rw [← hp] at hcell HT HN
      clear hp
      have HSN := Lib.hid (outOf_snoc 4 (l.take k) p)
      cases hs : scalarB 4 p
      · have HS := Lib.hid hs
        clear hs
        go_wp2_with (go_at_call 26; refine (scalar_any _ _ _).mono ?_; rintro e w' ⟨rfl, rfl⟩; rw [HS.out])
        go_ret2
        exact encRet (HN.out HS.out) hB
      · have HS := Lib.hid hs
        have HP := Lib.hid (scalar_bounds hs)
        clear hs
        by_cases hm2 : m ≤ 4000
        · go_wp2_with fail
          refine (scalar_any _ _ _).mono ?_; rintro e w' ⟨rfl, rfl⟩; rw [HS.out]
          obtain ⟨q1, q2, q30, q4⟩ := HP.out
          have q3 := q30 (by first | trivial | rfl)
          clear q30 q4
          go_wp2_with (first
            | (go_at_call 61; refine (bytes4 p _ q1 q3).mono ?_; rintro e w2 ⟨A2, n2, c2, rfl, hown2, hb2⟩; have hsz2 := hb2.size; have hsz := hB.size; have hlen2 : n2 ≤ 4 := by (rw [own_byts_len hown2]; exact bytesOf_len _ _))
            | (at_builtin; refine app_bytes (.tmp 27) (.tmp 30) (own_below hown hb2 (Nat.le_refl _)) (Rds.of_own hown2) (by omega) (by omega) rfl rfl rfl rfl ?_; intro v3 w3 hown3 hg3 hat3))
          go_roundw
          case rel => exact ⟨k + 1, m + n2, by omega, by go_num, by rw [HT.out, List.all_append, HALL.out]; simp [HS.out], by rw [HT.out, HSN.out, outStep, if_pos (by rw [← own_byts_len hown]; omega)]; exact hown3, grown_own (hB.trans (hb2.mono hsz)) (own_below hown hb2 (Nat.le_refl _)) hg3 (Nat.le_refl _) (by omega)⟩
          case measure => simp [intOf]; omega
        · go_wp2_with (go_at_call 26; refine (scalar_any _ _ _).mono ?_; rintro e w' ⟨rfl, rfl⟩; rw [HS.out])
          go_roundw
          case rel => exact ⟨k + 1, m, by omega, by go_num, by rw [HT.out, List.all_append, HALL.out]; simp [HS.out], by rw [HT.out, HSN.out, outStep, if_neg (by rw [← own_byts_len hown]; omega)]; exact hown, hB⟩
          case measure => simp [intOf]; omega
    · obtain rfl : k = n := by omega
      have HT := Lib.hid (show l.take k = l from List.take_of_length_le (by rw [HL.out]; exact Nat.le_refl _))
      rw [HT.out] at hown HALL
      have hstr := run_str (c := cv) (Rds.of_own hown)
      by_cases hm2 : m ≤ 4000
      · have HE := Lib.hid (encE_ok 4 l rfl HALL.out (by rw [← own_byts_len hown]; exact hm2))
        go_wp2
        go_ret2
        exact encRet HE.out hB
      · have HE := Lib.hid (encE_many 4 l rfl HALL.out (by rw [← own_byts_len hown]; omega))
        go_wp2
        go_ret2
        exact encRet HE.out hB

theorem enc_cases {enc : Int} (h : encB enc = true) : enc = 1 ∨ enc = 2 ∨ enc = 3 ∨ enc = 4 := by simp [encB] at h; omega
set_option maxHeartbeats 400000 in
theorem encode_any (enc : Int) (l : List Int) (A : Option Addr) (n c : Nat) (w : World) (hn : n ≤ c) (hc : c ≤ maxLen) (hl : Rds w w.heap.size 1 A n (ints l)) :
    Calls Try.prog 15 #[.int .i64 enc, .slice A n c] w (EncPost w (encE enc l)) := by
  cases he : encB enc
  · have HE := Lib.hid (encE_no enc l he)
    have HN := Lib.hid he
    clear he
    go_enter Try.func15, Try.ntmps15
    go_wp2_with (go_at_call 25; refine (of_no _ _ HN.out).mono ?_; rintro e w' ⟨rfl, rfl⟩)
    go_ret2
    exact encRet HE.out (Below.refl _ _)
  · rcases enc_cases he with rfl | rfl | rfl | rfl
    · exact encode1 l A n c w hn hc hl
    · exact encode2 l A n c w hn hc hl
    · exact encode3 l A n c w hn hc hl
    · exact encode4 l A n c w hn hc hl
end Go.Proofs.Ytlgpnofkfpeacaa
