/- IsName of the reference: walked. -/
import Derived.Test.YtbekjfoefjnidaaDoorFsAM
namespace Go.Proofs.YtbekjfoefjnidaaDoor
open Go.RowKit
set_option linter.unusedVariables false
/-- the bytes of a text, as numbers -/
def bytesL (s : ByteArray) : List Int := (List.range s.size).map fun i => byteAt s i
theorem bytesL_len (s : ByteArray) : (bytesL s).length = s.size := by simp [bytesL]
theorem bytesL_get (s : ByteArray) {k : Nat} (h : k < s.size) : (bytesL s)[k]'(by rw [bytesL_len]; exact h) = byteAt s k := by simp [bytesL]
theorem bytesL_take (s : ByteArray) {k : Nat} (h : k < s.size) : (bytesL s).take (k + 1) = (bytesL s).take k ++ [byteAt s k] := by
  rw [List.take_succ_eq_append_getElem (by rw [bytesL_len]; exact h), bytesL_get s h]
/-- a text is a name just if the name that stands at its head is all of it -/
theorem nmAt_isNm {s : ByteArray} {k : Nat} (h : NmAt (bytesL s) 0 k) : isNm s = (decide (k ≠ 0) && decide (k = s.size)) := by
  have hat : ∀ i, i < s.size → ptAt (bytesL s) (0 + (i : Int)) = byteAt s i := fun i hi => by
    rw [Int.zero_add, ptAt_in _ (by rw [bytesL_len]; exact hi), bytesL_get s hi]
  have hkn : k ≤ s.size := by
    rcases Nat.lt_or_ge s.size k with h1 | h1
    · have h2 := h.ok s.size h1
      have := ptAt_okAt (l := bytesL s) h2
      rw [bytesL_len] at this
      omega
    · exact h1
  by_cases hk : k ≠ 0 ∧ k = s.size
  · obtain ⟨h1, rfl⟩ := hk
    rw [isNm_true (show NameB s from ⟨fun i hi => by have := h.ok i hi; rwa [hat i hi] at this, h1, h.le⟩)]
    simp [h1]
  · have hn : isNm s = false := isNm_false fun hn => by
      obtain ⟨a, b, c⟩ := hn
      refine hk ?_
      by_cases e : k = s.size
      · exact ⟨by omega, e⟩
      · exfalso
        rcases h.stop with h2 | h2
        · omega
        · exact h2 (by rw [hat k (by omega)]; exact a k (by omega))
    rw [hn]
    by_cases h0 : k = 0
    · simp [h0]
    · have : ¬ k = s.size := fun e => hk ⟨h0, e⟩
      simp [this]
set_option maxRecDepth 100000 in
set_option maxHeartbeats 4000000 in
theorem isName35 (s : ByteArray) (w : World) (hs : s.size ≤ 100000000) : Calls Tryd.prog 20 #[.string s] w fun e w' => e = .returned (.bool (isNm s)) ∧ Below w.heap.size w w' := by
  obtain ⟨k0, hk0⟩ := nmAt_ex (bytesL s) 0
  have HK := Lib.hid hk0
  have HNM := Lib.hid (nmAt_isNm hk0)
  have hk20 := hk0.le
  clear hk0
  go_enter Tryd.func20, Tryd.ntmps20
  go_wp2_with fail
  go_loopw [3, 4] (fun v i wr => ∃ k : Nat, k ≤ s.size ∧ i = .int .i64 k ∧ wr.ownsRow w.heap.size 3 1 v k (ints ((bytesL s).take k)) ∧ Below w.heap.size w wr) (fun _ i _ => s.size - (intOf i).toNat)
  case atStart => exact ⟨0, Nat.zero_le _, rfl, World.ownsRow_nil _ _ _ _, Below.refl _ _⟩
  case round =>
    obtain ⟨k, hk, rfl, hown, hBl⟩ := hrel
    obtain ⟨Av, cv, rfl, hmc, hcv⟩ := own_slice hown
    unfold maxLen at hcv
    have hsz := hBl.size
    by_cases hlt : k < s.size
    · have HT := Lib.hid (bytesL_take s hlt)
      have hbx := byteAt_lt s hlt
      have hx0 : 0 ≤ byteAt s k ∧ byteAt s k ≤ 255 := by rw [hbx]; have := (s[k]'hlt).toNat_lt; omega
      have HB := Lib.hid hbx.symm
      obtain ⟨x, hx⟩ : ∃ x, x = byteAt s k := ⟨_, rfl⟩
      rw [← hx] at HT HB hx0
      clear hx hbx
      have R := Lib.hid (Rds.new wr 1 1 #[.int .i64 x] 3 (ints [x]) rfl rfl)
      have i1 : (0 : Int) ≤ (k : Int) := by omega
      have i2 : (k : Int) < (s.size : Int) := by omega
      have hidx := HB.out
      go_wp2_with (at_builtin; refine app_ints (.tmp 13) (.tmp 18) (hown.alloc _) R.out (by omega) (by simp; omega) rfl rfl rfl rfl ?_; intro v3 w3 hown3 hg3 hat3)
      go_roundw
      case rel => exact ⟨k + 1, by omega, by go_num, by rw [HT.out]; exact hown3, grown_own (hBl.alloc hsz _) (hown.alloc _) hg3 (Nat.le_refl _) (by simp; omega)⟩
      case measure => simp [intOf]; omega
    · obtain rfl : k = s.size := by omega
      rw [List.take_of_length_le (by rw [bytesL_len]; exact Nat.le_refl _)] at hown
      have C := Lib.hid (nameAt45 (bytesL s) 0 Av s.size cv k0 wr (by unfold maxLen; omega) (Rds.of_own hown) HK.out)
      have hsl := nmStr_size (bytesL s) 0 k0
      have HBL := Lib.hid hBl
      clear hown hBl
      obtain ⟨t, ht⟩ : ∃ t, t = nmStr (bytesL s) 0 k0 := ⟨_, rfl⟩
      rw [← ht] at C hsl
      clear ht
      have hte : t.toList.isEmpty = decide (k0 = 0) := by
        have := nm_len t
        rw [Bool.eq_iff_iff, List.isEmpty_iff, decide_eq_true_eq]
        exact ⟨fun h => by rw [h] at this; simp at this; omega, fun h => List.eq_nil_of_length_eq_zero (by omega)⟩
      by_cases hk0 : k0 = 0
      · rw [decide_eq_true hk0] at hte
        go_wp2_with (go_at_call 32; refine C.out.mono ?_; rintro e w' ⟨rfl, hb⟩; have HB2 := Lib.hid hb; clear hb)
        all_goals
          go_ret
          refine ⟨ret_bool ?_, below_next HBL.out HB2.out⟩
          rw [HNM.out]
          simp_all
      · rw [decide_eq_false hk0] at hte
        go_wp2_with (go_at_call 32; refine C.out.mono ?_; rintro e w' ⟨rfl, hb⟩; have HB2 := Lib.hid hb; clear hb)
        all_goals
          go_ret
          refine ⟨ret_bool ?_, below_next HBL.out HB2.out⟩
          rw [HNM.out, Bool.eq_iff_iff]
          simp [hk0]
          try omega
end Go.Proofs.YtbekjfoefjnidaaDoor
