/-
  What the reference hands SetOf, walked: is a point in a set, in none, in both, in one of two.
-/
import Derived.Test.YtoilhjpbkbdifaaGreatSetE
import Derived.Test.YtoilhjpbkbdifaaGreatSetP
namespace Go.Proofs.YtoilhjpbkbdifaaGreat
open Go.RowKit
set_option linter.unusedVariables false
theorem within_of (a : List (Int × Int)) (p : Int) (b : Bool) (hb : memB a p = b) (A : Option Addr) (n c : Nat) (w : World) (B : Nat) (hn : n ≤ maxLen) (ha : Rds w B 2 A n (rngs a)) :
    Calls Tryz.prog 9 #[.slice A n c, .int .i64 p] w fun e w' => e = .returned (.bool b) ∧ ∃ m, w' = w.drewN m := by rw [← hb]; exact within_any a p A n c w B hn ha
theorem memB_change (a : List (Int × Int)) (p : Int) (h : p ∉ endsL a) : memB a p = memB a (p - 1) := by
  induction a with
  | nil => rfl
  | cons r a ih =>
    simp only [endsL, List.mem_cons, not_or] at h
    have := ih h.2.2
    simp only [memB, List.any_cons] at this ⊢
    rw [this]
    congr 1
    rw [Bool.eq_iff_iff]
    simp
    omega
set_option maxHeartbeats 400000 in
theorem clo75 (a : List (Int × Int)) (p : Int) (b : Nat) (A : Option Addr) (n c : Nat) (w : World) (B : Nat) (hn : n ≤ maxLen) (ha : Rds w B 2 A n (rngs a)) (hc : w.cell? ⟨b, 0, none⟩ = some (.slice A n c)) :
    Calls Tryz.prog 15 #[.int .i64 p, .pointer (some ⟨b, 0, none⟩)] w fun e w' => e = .returned (.bool (memB a p)) ∧ ∃ m, w' = w.drewN m := by
  go_enter Tryz.func15, Tryz.ntmps15
  go_wp2_with (go_at_call 9; refine (within_any a p _ _ _ _ B hn ha).mono ?_; rintro e w' ⟨rfl, q, rfl⟩)
  go_ret
  exact ⟨rfl, q, rfl⟩
end Go.Proofs.YtoilhjpbkbdifaaGreat
