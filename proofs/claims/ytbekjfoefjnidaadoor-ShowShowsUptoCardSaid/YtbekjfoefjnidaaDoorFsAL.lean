/- Names in the reference: points, letters, digits; walked. -/
import Derived.Test.YtbekjfoefjnidaaDoorFsAK
namespace Go.Proofs.YtbekjfoefjnidaaDoor
open Go.RowKit
set_option linter.unusedVariables false
/-- the point at a place, -1 beside the text -/
def ptAt (l : List Int) (p : Int) : Int := if h : 0 ≤ p ∧ p < l.length then l[p.toNat]'(by omega) else -1
theorem ptAt_in (l : List Int) {k : Nat} (h : k < l.length) : ptAt l (k : Int) = l[k] := by
  unfold ptAt; rw [dif_pos ⟨by omega, by omega⟩]; simp
theorem ptAt_out (l : List Int) {p : Int} (h : ¬ (0 ≤ p ∧ p < l.length)) : ptAt l p = -1 := dif_neg h
set_option maxHeartbeats 1000000 in
theorem pointAt54 (l : List Int) (p : Int) (A : Option Addr) (n c : Nat) (w : World) (X : Nat) (hn : n ≤ maxLen) (ha : Rds w X 1 A n (ints l)) :
    Calls Tryd.prog 40 #[.slice A n c, .int .i64 p] w fun e w' => e = .returned (.int .i64 (ptAt l p)) ∧ w' = w := by
  have HLN := Lib.hid ha.ints_len
  unfold maxLen at hn
  by_cases h0 : 0 ≤ p
  · by_cases hlt : p < n
    · obtain ⟨k, rfl⟩ := Int.eq_ofNat_of_zero_le h0
      obtain ⟨b1, off1, hl1, hA, hb1, hc1⟩ := ha.int_at (k := k) (by omega)
      have HP := Lib.hid (ptAt_in l hl1)
      obtain ⟨x, hx⟩ : ∃ x, x = l[k] := ⟨_, rfl⟩
      rw [← hx] at hc1 HP
      clear hx
      subst hA
      go_enter Tryd.func40, Tryd.ntmps40
      go_wp2
      go_ret
      exact ⟨ret_int HP.out.symm, rfl⟩
    · have HP := Lib.hid (ptAt_out l (p := p) (by rw [HLN.out]; omega))
      go_enter Tryd.func40, Tryd.ntmps40
      go_wp2
      go_ret
      exact ⟨ret_int HP.out.symm, rfl⟩
  · have HP := Lib.hid (ptAt_out l (p := p) (by omega))
    go_enter Tryd.func40, Tryd.ntmps40
    go_wp2
    go_ret
    exact ⟨ret_int HP.out.symm, rfl⟩
theorem letter55 (p : Int) (w : World) : Calls Tryd.prog 41 #[.int .i64 p] w fun e w' => e = .returned (.bool (decide (65 ≤ p ∧ p ≤ 90 ∨ 97 ≤ p ∧ p ≤ 122))) ∧ w' = w := by
  have C := Lib.hid (fun a b => between_any p a b w)
  by_cases h1 : 65 ≤ p
  · by_cases h2 : p ≤ 90
    · go_enter Tryd.func41, Tryd.ntmps41
      go_wp2_with (go_at_call 19; refine (C.out _ _).mono ?_; rintro e w' ⟨rfl, rfl⟩)
      all_goals (go_ret; refine ⟨ret_bool ?_, rfl⟩; simp_all; try omega)
    · go_enter Tryd.func41, Tryd.ntmps41
      go_wp2_with (go_at_call 19; refine (C.out _ _).mono ?_; rintro e w' ⟨rfl, rfl⟩)
      all_goals (go_ret; refine ⟨ret_bool ?_, rfl⟩; simp_all; try omega)
  · go_enter Tryd.func41, Tryd.ntmps41
    go_wp2_with (go_at_call 19; refine (C.out _ _).mono ?_; rintro e w' ⟨rfl, rfl⟩)
    all_goals (go_ret; refine ⟨ret_bool ?_, rfl⟩; simp_all; try omega)
theorem digit56 (p : Int) (w : World) : Calls Tryd.prog 42 #[.int .i64 p] w fun e w' => e = .returned (.bool (decide (48 ≤ p ∧ p ≤ 57))) ∧ w' = w := by
  have C := Lib.hid (fun a b => between_any p a b w)
  go_enter Tryd.func42, Tryd.ntmps42
  go_wp2_with (go_at_call 19; refine (C.out _ _).mono ?_; rintro e w' ⟨rfl, rfl⟩)
  go_ret
  refine ⟨ret_bool ?_, rfl⟩
  simp
end Go.Proofs.YtbekjfoefjnidaaDoor
