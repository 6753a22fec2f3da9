/-
  SameSet and RightRanges of the reference, walked.
-/
import Derived.Test.YtihodjfnhkihiaaSetB
import Derived.Laws.StructEq
namespace Go.Proofs.Ytihodjfnhkihiaa
open Go.RowKit
set_option linter.unusedVariables false
def sameS (a b : List (Int × Int)) : Bool := decide (a = b)
theorem sameS_len {a b : List (Int × Int)} (h : a.length ≠ b.length) : sameS a b = false := by simp [sameS]; intro e; exact h (by rw [e])
theorem sameS_at {a b : List (Int × Int)} (k : Nat) (h1 : k < a.length) (h2 : k < b.length) (h : a[k] ≠ b[k]) : sameS a b = false := by
  simp [sameS]; intro e; subst e; exact h rfl
theorem sameS_all {a b : List (Int × Int)} (hl : a.length = b.length) (h : a.take a.length = b.take a.length) : sameS a b = true := by
  have : a = b := by
    rw [List.take_length, hl, List.take_length] at h; exact h
  simp [sameS, this]
theorem okR_false {r : Int × Int} (h : okR r = false) : (decide (0 ≤ r.1) && decide (r.1 ≤ 1114111)) = false ∨ (decide (0 ≤ r.1) && decide (r.1 ≤ 1114111)) = true ∧ (decide (0 ≤ r.2) && decide (r.2 ≤ 1114111)) = false ∨ (decide (0 ≤ r.1) && decide (r.1 ≤ 1114111)) = true ∧ (decide (0 ≤ r.2) && decide (r.2 ≤ 1114111)) = true ∧ r.2 < r.1 := by
  unfold okR at h
  cases h1 : (decide (0 ≤ r.1) && decide (r.1 ≤ 1114111))
  · exact .inl rfl
  · cases h2 : (decide (0 ≤ r.2) && decide (r.2 ≤ 1114111))
    · exact .inr (.inl ⟨rfl, rfl⟩)
    · rw [h1, h2] at h; simp at h; exact .inr (.inr ⟨rfl, rfl, h⟩)
theorem okR_true {r : Int × Int} (h : okR r = true) : (decide (0 ≤ r.1) && decide (r.1 ≤ 1114111)) = true ∧ (decide (0 ≤ r.2) && decide (r.2 ≤ 1114111)) = true ∧ r.1 ≤ r.2 := by
  unfold okR at h; simp at h ⊢; omega
theorem rangesE_many {a : List (Int × Int)} (h : 400 < a.length) : rangesE a = 2 := by simp [rangesE, h]
theorem rangesE_bad {a : List (Int × Int)} (h : a.length ≤ 400) (k : Nat) (hk : k < a.length) (hr : okR a[k] = false) : rangesE a = 3 := by
  have : a.all okR = false := by rw [List.all_eq_false]; exact ⟨a[k], List.getElem_mem hk, by simp [hr]⟩
  simp [rangesE, this]; omega
theorem rangesE_fine {a : List (Int × Int)} (h : a.length ≤ 400) (hr : (a.take a.length).all okR = true) : rangesE a = 0 := by
  rw [List.take_length] at hr
  simp [rangesE, hr]; omega
theorem isPoint_of (p : Int) (b : Bool) (w : World) (h : (decide (0 ≤ p) && decide (p ≤ 1114111)) = b) : Calls Try.prog 26 #[.int .i64 p] w fun e w' => e = .returned (.bool b) ∧ w' = w := by
  rw [← h]; exact isPoint_any p w
set_option maxHeartbeats 2000000 in
theorem rightRanges_any (a : List (Int × Int)) (A : Option Addr) (n c : Nat) (w : World) (X : Nat) (hn : n ≤ maxLen) (ha : Rds w X 2 A n (rngs a)) :
    Calls Try.prog 24 #[.slice A n c] w fun e w' => e = .returned (.int .i64 (rangesE a)) ∧ ∃ q, w' = w.drewN q := by
  have HA := Lib.hid ha.rngs_len
  unfold maxLen at hn
  by_cases hbig : 400 < n
  · have HE := Lib.hid (rangesE_many (a := a) (by rw [HA.out]; exact hbig))
    go_enter Try.func24, Try.ntmps24
    go_wp2
    go_ret
    exact ⟨ret_int HE.out.symm, 0, rfl⟩
  · go_enter Try.func24, Try.ntmps24
    go_wp2_with fail
    go_loopw [3] (fun i wr => ∃ k : Nat, k ≤ n ∧ i = .int .i64 k ∧ (a.take k).all okR = true ∧ ∃ q, wr = w.drewN q) (fun i _ => n - (intOf i).toNat)
    case atStart => exact ⟨0, Nat.zero_le _, rfl, by simp, 0, rfl⟩
    case round =>
      obtain ⟨k, hk, rfl, hall, q, rfl⟩ := hrel
      have HALL := Lib.hid hall
      clear hall
      by_cases hlt : k < n
      · obtain ⟨b1, off1, hl1, hA, hb1, hc1, hd1⟩ := ha.rng_at hlt
        subst hA
        have HT1 := Lib.hid (take_snoc' a k hl1)
        have HS := Lib.hid (rangesE_bad (a := a) (by rw [HA.out]; omega) k hl1)
        obtain ⟨p, hp⟩ : ∃ p, p = a[k] := ⟨_, rfl⟩
        rw [← hp] at hc1 hd1 HT1 HS
        clear hp
        have i1 : (0 : Int) ≤ (k : Int) := by omega
        have i2 : (k : Int) < (n : Int) := by omega
        obtain ⟨x, y⟩ := p
        simp only at hc1 hd1
        cases hok : okR (x, y)
        · have HOK := Lib.hid hok
          rcases okR_false hok with h | ⟨h, h2⟩ | ⟨h, h2, h3⟩
          · have H := Lib.hid h
            clear h hok
            go_wp2_with fail
            go_quiet ((go_at_call 26; (first | (with_reducible exact Calls.quiet_of_same (isPoint_of x false _ H.out)) | (with_reducible exact quiet_add_same (isPoint_of x false _ H.out)))))
            go_wp2
            go_ret
            exact ⟨ret_int (HS.out HOK.out).symm, _, World.drewN_drewN ..⟩
          · have H := Lib.hid h
            have H2 := Lib.hid h2
            clear h h2 hok
            go_wp2_with fail
            go_quiet ((go_at_call 26; (first | (with_reducible exact Calls.quiet_of_same (isPoint_of x true _ H.out)) | (with_reducible exact quiet_add_same (isPoint_of x true _ H.out)) | (with_reducible exact Calls.quiet_of_same (isPoint_of y false _ H2.out)) | (with_reducible exact quiet_add_same (isPoint_of y false _ H2.out)))))
            go_wp2
            go_ret
            exact ⟨ret_int (HS.out HOK.out).symm, _, World.drewN_drewN ..⟩
          · have H := Lib.hid h
            have H2 := Lib.hid h2
            clear h h2 hok
            simp only at h3
            go_wp2_with fail
            go_quiet ((go_at_call 26; (first | (with_reducible exact Calls.quiet_of_same (isPoint_of x true _ H.out)) | (with_reducible exact quiet_add_same (isPoint_of x true _ H.out)) | (with_reducible exact Calls.quiet_of_same (isPoint_of y true _ H2.out)) | (with_reducible exact quiet_add_same (isPoint_of y true _ H2.out)))))
            go_wp2
            go_ret
            exact ⟨ret_int (HS.out HOK.out).symm, _, World.drewN_drewN ..⟩
        · obtain ⟨h, h2, h3⟩ := okR_true hok
          have H := Lib.hid h
          have H2 := Lib.hid h2
          have HOK := Lib.hid hok
          clear h h2 hok
          simp only at h3
          go_wp2_with fail
          go_quiet ((go_at_call 26; (first | (with_reducible exact Calls.quiet_of_same (isPoint_of x true _ H.out)) | (with_reducible exact quiet_add_same (isPoint_of x true _ H.out)) | (with_reducible exact Calls.quiet_of_same (isPoint_of y true _ H2.out)) | (with_reducible exact quiet_add_same (isPoint_of y true _ H2.out)))))
          go_wp2
          go_roundw
          case rel => exact ⟨k + 1, by omega, by go_num, by rw [HT1.out, List.all_append, HALL.out]; simp [HOK.out], _, rfl⟩
          case measure => simp [intOf]; omega
      · obtain rfl : k = n := by omega
        go_wp2
        go_ret
        exact ⟨ret_int (rangesE_fine (by rw [HA.out]; omega) (by rw [HA.out]; exact HALL.out)).symm, q, rfl⟩
end Go.Proofs.Ytihodjfnhkihiaa
