/-
  Within of the reference and what it calls, walked.
-/
import Derived.Test.YtihodjfnhkihiaaBase
import Derived.Test.YtihodjfnhkihiaaSetA
namespace Go.Proofs.Ytihodjfnhkihiaa
open Go.RowKit
set_option linter.unusedVariables false
theorem take_snoc' {α : Type} (l : List α) (k : Nat) (h : k < l.length) : l.take (k + 1) = l.take k ++ [l[k]] := by
  rw [List.take_succ_eq_append_getElem h]
theorem quiet_add_same {P : Program} {f : FuncId} {args : Array Value} {w : World} {a n : Nat} {v : Value}
    (h : Calls P f args (w.drewN (a + n)) fun e w' => e = .returned v ∧ w' = w.drewN (a + n)) :
    Calls P f args (w.drewN (a + n)) fun e w'' => e = .returned v ∧ ∃ m, w'' = w.drewN (a + m) :=
  h.mono fun _ _ ⟨he, hm⟩ => ⟨he, n, hm⟩
set_option maxHeartbeats 400000 in
theorem between_any (p a b : Int) (w : World) : Calls Try.prog 28 #[.int .i64 p, .int .i64 a, .int .i64 b] w fun e w' => e = .returned (.bool (decide (a ≤ p) && decide (p ≤ b))) ∧ w' = w := by
  go_enter Try.func28, Try.ntmps28
  go_wp2
  all_goals (go_ret; refine ⟨ret_bool ?_, rfl⟩; simp_all; try omega)
set_option maxHeartbeats 400000 in
theorem isPoint_any (p : Int) (w : World) : Calls Try.prog 26 #[.int .i64 p] w fun e w' => e = .returned (.bool (decide (0 ≤ p) && decide (p ≤ 1114111))) ∧ w' = w := by
  go_enter Try.func26, Try.ntmps26
  go_wp2
  all_goals (go_ret; refine ⟨ret_bool ?_, rfl⟩; simp_all; try omega)
theorem memB_at {a : List (Int × Int)} {p : Int} (k : Nat) (h : k < a.length) (hp : (decide (a[k].1 ≤ p) && decide (p ≤ a[k].2)) = true) : memB a p = true := by
  unfold memB; rw [List.any_eq_true]; exact ⟨a[k], List.getElem_mem h, hp⟩
theorem memB_none {a : List (Int × Int)} {p : Int} (h : memB (a.take a.length) p = false) : memB a p = false := by rwa [List.take_length] at h
theorem memB_snoc (a : List (Int × Int)) (r : Int × Int) (p : Int) : memB (a ++ [r]) p = (memB a p || (decide (r.1 ≤ p) && decide (p ≤ r.2))) := by simp [memB]
end Go.Proofs.Ytihodjfnhkihiaa
