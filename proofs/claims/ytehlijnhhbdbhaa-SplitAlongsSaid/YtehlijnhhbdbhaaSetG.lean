/-
  What the reference hands SetOf, walked: is a point in a set, in none, in both, in one of two.
-/
import Derived.Test.YtehlijnhhbdbhaaSetE
import Derived.Test.YtehlijnhhbdbhaaSetP
namespace Go.Proofs.Ytehlijnhhbdbhaa
open Go.RowKit
set_option linter.unusedVariables false
theorem within_of (a : List (Int × Int)) (p : Int) (b : Bool) (hb : memB a p = b) (A : Option Addr) (n c : Nat) (w : World) (B : Nat) (hn : n ≤ maxLen) (ha : Rds w B 2 A n (rngs a)) :
    Calls Try.prog 46 #[.slice A n c, .int .i64 p] w fun e w' => e = .returned (.bool b) ∧ ∃ m, w' = w.drewN m := by rw [← hb]; exact within_any a p A n c w B hn ha
theorem memB_change (a : List (Int × Int)) (p : Int) (h : p ∉ endsL a) : memB a p = memB a (p - 1) := by
  induction a with
  | nil => rfl
  | cons r a ih =>
    simp only [endsL, List.mem_cons, not_or] at h
    have := ih h.2.2
    simp only [memB, List.any_cons] at this ⊢
    rw [this]
    congr 1
    rw [Bool.eq_iff_iff]
    simp
    omega
set_option maxHeartbeats 400000 in
theorem clo75 (a : List (Int × Int)) (p : Int) (b : Nat) (A : Option Addr) (n c : Nat) (w : World) (B : Nat) (hn : n ≤ maxLen) (ha : Rds w B 2 A n (rngs a)) (hc : w.cell? ⟨b, 0, none⟩ = some (.slice A n c)) :
    Calls Try.prog 75 #[.int .i64 p, .pointer (some ⟨b, 0, none⟩)] w fun e w' => e = .returned (.bool (memB a p)) ∧ ∃ m, w' = w.drewN m := by
  go_enter Try.func75, Try.ntmps75
  go_wp2_with (go_at_call 46; refine (within_any a p _ _ _ _ B hn ha).mono ?_; rintro e w' ⟨rfl, q, rfl⟩)
  go_ret
  exact ⟨rfl, q, rfl⟩
set_option maxHeartbeats 400000 in
theorem clo79 (a : List (Int × Int)) (p : Int) (b : Nat) (A : Option Addr) (n c : Nat) (w : World) (B : Nat) (hn : n ≤ maxLen) (ha : Rds w B 2 A n (rngs a)) (hc : w.cell? ⟨b, 0, none⟩ = some (.slice A n c)) :
    Calls Try.prog 79 #[.int .i64 p, .pointer (some ⟨b, 0, none⟩)] w fun e w' => e = .returned (.bool (!memB a p)) ∧ ∃ m, w' = w.drewN m := by
  go_enter Try.func79, Try.ntmps79
  go_wp2_with (go_at_call 46; refine (within_any a p _ _ _ _ B hn ha).mono ?_; rintro e w' ⟨rfl, q, rfl⟩)
  go_ret
  exact ⟨rfl, q, rfl⟩
set_option maxHeartbeats 400000 in
theorem clo83 (a a2 : List (Int × Int)) (p : Int) (b b2 : Nat) (A A2 : Option Addr) (n c n2 c2 : Nat) (w : World) (B B2 : Nat) (hn : n ≤ maxLen) (hn2 : n2 ≤ maxLen) (ha : Rds w B 2 A n (rngs a)) (ha2 : Rds w B2 2 A2 n2 (rngs a2)) (hc : w.cell? ⟨b, 0, none⟩ = some (.slice A n c)) (hc2 : w.cell? ⟨b2, 0, none⟩ = some (.slice A2 n2 c2)) :
    Calls Try.prog 83 #[.int .i64 p, .pointer (some ⟨b, 0, none⟩), .pointer (some ⟨b2, 0, none⟩)] w fun e w' => e = .returned (.bool (memB a p && memB a2 p)) ∧ ∃ m, w' = w.drewN m := by
  cases h1 : memB a p
  · have H1 := Lib.hid h1
    clear h1
    go_enter Try.func83, Try.ntmps83
    go_wp2_with (go_at_call 46; refine (within_of a p false H1.out _ _ _ _ B hn ha).mono ?_; rintro e w' ⟨rfl, q, rfl⟩)
    go_ret
    exact ⟨rfl, q, rfl⟩
  · have H1 := Lib.hid h1
    clear h1
    go_enter Try.func83, Try.ntmps83
    go_wp2_with fail
    refine (within_of a p true H1.out _ _ _ _ B hn ha).mono ?_
    rintro e w' ⟨rfl, q, rfl⟩
    go_wp2_with fail
    refine (within_any a2 p _ _ _ _ B2 hn2 ((ha2.drewN q))).mono ?_
    rintro e w' ⟨rfl, q2, rfl⟩
    go_wp2
    go_ret
    exact ⟨ret_bool (by simp), _, rfl⟩
set_option maxHeartbeats 400000 in
theorem clo87 (a a2 : List (Int × Int)) (p : Int) (b b2 : Nat) (A A2 : Option Addr) (n c n2 c2 : Nat) (w : World) (B B2 : Nat) (hn : n ≤ maxLen) (hn2 : n2 ≤ maxLen) (ha : Rds w B 2 A n (rngs a)) (ha2 : Rds w B2 2 A2 n2 (rngs a2)) (hc : w.cell? ⟨b, 0, none⟩ = some (.slice A n c)) (hc2 : w.cell? ⟨b2, 0, none⟩ = some (.slice A2 n2 c2)) :
    Calls Try.prog 87 #[.int .i64 p, .pointer (some ⟨b, 0, none⟩), .pointer (some ⟨b2, 0, none⟩)] w fun e w' => e = .returned (.bool (memB a p || memB a2 p)) ∧ ∃ m, w' = w.drewN m := by
  cases h1 : memB a p
  · have H1 := Lib.hid h1
    clear h1
    go_enter Try.func87, Try.ntmps87
    go_wp2_with fail
    refine (within_of a p false H1.out _ _ _ _ B hn ha).mono ?_
    rintro e w' ⟨rfl, q, rfl⟩
    go_wp2_with fail
    refine (within_any a2 p _ _ _ _ B2 hn2 ((ha2.drewN q))).mono ?_
    rintro e w' ⟨rfl, q2, rfl⟩
    go_wp2
    go_ret
    exact ⟨ret_bool (by simp), _, rfl⟩
  · have H1 := Lib.hid h1
    clear h1
    go_enter Try.func87, Try.ntmps87
    go_wp2_with (go_at_call 46; refine (within_of a p true H1.out _ _ _ _ B hn ha).mono ?_; rintro e w' ⟨rfl, q, rfl⟩)
    go_ret
    exact ⟨rfl, q, rfl⟩
end Go.Proofs.Ytehlijnhhbdbhaa
