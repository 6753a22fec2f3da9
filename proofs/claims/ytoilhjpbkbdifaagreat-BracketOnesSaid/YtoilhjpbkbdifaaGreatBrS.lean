/- What is wrong with a pattern as such: walked. -/
import Derived.Test.YtoilhjpbkbdifaaGreatBase
namespace Go.Proofs.YtoilhjpbkbdifaaGreat
open Go.RowKit
set_option linter.unusedVariables false
def okPt (p : Int) : Bool := decide (0 ≤ p) && decide (p ≤ 1114111)
theorem bad25 (p : Int) (w : World) : Calls Tryz.prog 18 #[.int .i64 p] w fun e w' => e = .returned (.bool (!okPt p)) ∧ w = w' := by
  go_enter Tryz.func18, Tryz.ntmps18
  go_wp2
  all_goals (go_ret; refine ⟨ret_bool ?_, rfl⟩; unfold okPt; by_cases a : 0 ≤ p <;> by_cases b : p ≤ 1114111 <;> simp [a, b] <;> omega)
theorem all_ok_snoc (l : List Int) (k : Nat) (h : k < l.length) (h1 : (l.take k).all okPt = true) (h2 : okPt l[k] = true) : (l.take (k + 1)).all okPt = true := by
  rw [List.take_succ_eq_append_getElem h, List.all_append, h1]; simp [h2]
theorem all_ok_bad (l : List Int) (k : Nat) (h : k < l.length) (h2 : okPt l[k] = false) : l.all okPt = false := by
  rw [List.all_eq_false]; exact ⟨l[k], List.getElem_mem h, by simp [h2]⟩
set_option maxHeartbeats 1000000 in
theorem index36 (l : List Int) (A : Option Addr) (n c : Nat) (X : Nat) (w : World) (hn : n ≤ maxLen) (ha : Rds w X 1 A n (ints l)) :
    Calls Tryz.prog 24 #[.slice A n c, .func (.func 18) #[] #[]] w fun e w' => (∃ i : Int, e = .returned (.int .i64 i) ∧ decide (0 ≤ i) = !l.all okPt) ∧ w = w' := by
  have HLN := Lib.hid ha.ints_len
  unfold maxLen at hn
  go_enter Tryz.func24, Tryz.ntmps24
  go_wp2_with fail
  go_loop [8] (fun i => ∃ k : Nat, k ≤ n ∧ i = .int .i64 k ∧ Hid ((l.take k).all okPt = true)) (fun i => n - (intOf i).toNat)
  case atStart => exact ⟨0, Nat.zero_le _, rfl, Lib.hid rfl⟩
  case round =>
    obtain ⟨k, hk, rfl, HK⟩ := hrel
    by_cases hlt : k < n
    · obtain ⟨b1, off1, hl1, hA, hb1, hc1⟩ := ha.int_at hlt
      have HS := Lib.hid (all_ok_snoc l k hl1 HK.out)
      have HB := Lib.hid (all_ok_bad l k hl1)
      obtain ⟨x, hx⟩ : ∃ x, x = l[k] := ⟨_, rfl⟩
      rw [← hx] at hc1 HS HB
      clear hx
      subst hA
      have C := Lib.hid (fun w => bad25 x w)
      have i1 : (0 : Int) ≤ (k : Int) := by omega
      have i2 : (k : Int) < (n : Int) := by omega
      cases hok : okPt x
      · rw [hok] at C
        have HB2 := Lib.hid (HB.out hok)
        clear hok HS HB
        go_wp2_with (go_at_call 18; refine (C.out _).mono ?_; rintro e w' ⟨rfl, rfl⟩)
        go_ret
        exact ⟨⟨k, rfl, by rw [HB2.out]; simp⟩, rfl⟩
      · rw [hok] at C
        have HS2 := Lib.hid (HS.out hok)
        clear hok HS HB
        go_wp2_with (go_at_call 18; refine (C.out _).mono ?_; rintro e w' ⟨rfl, rfl⟩)
        go_round
        case rel => exact ⟨k + 1, by omega, by go_num, HS2⟩
        case measure => simp [intOf]; omega
    · obtain rfl : k = n := by omega
      rw [List.take_of_length_le (by rw [HLN.out]; exact Nat.le_refl _)] at HK
      go_wp2_with fail
      go_ret
      exact ⟨⟨-1, rfl, by rw [HK.out]; rfl⟩, rfl⟩
theorem contains24 (l : List Int) (A : Option Addr) (n c : Nat) (X : Nat) (w : World) (hn : n ≤ maxLen) (ha : Rds w X 1 A n (ints l)) :
    Calls Tryz.prog 17 #[.slice A n c, .func (.func 18) #[] #[]] w fun e w' => e = .returned (.bool (!l.all okPt)) ∧ w = w' := by
  go_enter Tryz.func17, Tryz.ntmps17
  go_wp2_with fail
  refine (index36 l A n c X w hn ha).mono ?_
  rintro e w' ⟨⟨i, rfl, hi⟩, rfl⟩
  have HI := Lib.hid hi
  clear hi
  go_wp2
  go_ret
  exact ⟨ret_bool HI.out, rfl⟩
/-- what is wrong with a pattern as such -/
def rightE (d : Int) (l : List Int) : Int := if d < 1 ∨ 3 < d then 7 else if 300 < l.length then 2 else if l.all okPt = true then 0 else 3
set_option maxHeartbeats 1000000 in
theorem right14 (d : Int) (l : List Int) (A : Option Addr) (n c : Nat) (X : Nat) (w : World) (hn : n ≤ maxLen) (ha : Rds w X 1 A n (ints l)) :
    Calls Tryz.prog 11 #[.int .i64 d, .slice A n c] w fun e w' => e = .returned (.int .i64 (rightE d l)) ∧ w = w' := by
  have HLN := Lib.hid ha.ints_len
  have C := Lib.hid (contains24 l A n c X w hn ha)
  have hm := hn
  unfold maxLen at hm
  clear ha hn
  unfold rightE
  rw [HLN.out]
  by_cases h1 : d < 1
  · rw [if_pos (.inl h1)]
    go_enter Tryz.func11, Tryz.ntmps11
    go_wp2_with fail
    go_ret
    exact ⟨rfl, rfl⟩
  by_cases h2 : 3 < d
  · rw [if_pos (.inr h2)]
    go_enter Tryz.func11, Tryz.ntmps11
    go_wp2_with fail
    go_ret
    exact ⟨rfl, rfl⟩
  rw [if_neg (by omega)]
  by_cases h3 : 300 < n
  · rw [if_pos h3]
    have h3i : (300 : Int) < (n : Int) := by omega
    go_enter Tryz.func11, Tryz.ntmps11
    go_wp2_with fail
    go_ret
    exact ⟨rfl, rfl⟩
  · rw [if_neg h3]
    have h3i : ¬ (300 : Int) < (n : Int) := by omega
    cases hok : l.all okPt
    all_goals
      rw [hok] at C
      clear hok
      go_enter Tryz.func11, Tryz.ntmps11
      go_wp2_with (go_at_call 17; refine C.out.mono ?_; rintro e w' ⟨rfl, rfl⟩)
      go_ret
      exact ⟨rfl, rfl⟩
end Go.Proofs.YtoilhjpbkbdifaaGreat
