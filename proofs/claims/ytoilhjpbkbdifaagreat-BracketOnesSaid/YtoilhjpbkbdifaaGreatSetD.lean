/-
  CheckSet and CheckSets of the reference, walked.
-/
import Derived.Test.YtoilhjpbkbdifaaGreatSetC
namespace Go.Proofs.YtoilhjpbkbdifaaGreat
open Go.RowKit
set_option linter.unusedVariables false
theorem chk_ranges {a : List (Int × Int)} (h : rangesE a ≠ 0) : chk a = rangesE a := by
  unfold chk rangesE at *
  split
  · rfl
  · split
    · rfl
    · rename_i h1 h2; rw [if_neg h1, if_neg h2] at h; exact absurd rfl h
theorem chk_gap {a : List (Int × Int)} (h : rangesE a = 0) (k : Nat) (hk : k + 1 < a.length) (hg : ¬ (a[k]).2 + 2 ≤ (a[k + 1]).1) : chk a = 4 := by
  obtain ⟨h1, h2⟩ := (rangesE_ok a).1 h
  have h3 : a.all okR = true := List.all_eq_true.2 h2
  have h4 : gapB a = false := by
    cases hh : gapB a with
    | false => rfl
    | true => exact absurd ((gapB_iff a).1 hh k hk) hg
  simp [chk, h3, h4]; omega
theorem chk_fine {a : List (Int × Int)} (h : rangesE a = 0) (hg : ∀ i, (hi : i + 1 < a.length) → (a[i]).2 + 2 ≤ (a[i + 1]).1) : chk a = 0 := by
  obtain ⟨h1, h2⟩ := (rangesE_ok a).1 h
  have h3 : a.all okR = true := List.all_eq_true.2 h2
  simp [chk, h3, (gapB_iff a).2 hg]; omega
theorem okR_bounds {a : List (Int × Int)} (h : rangesE a = 0) (k : Nat) (hk : k < a.length) : 0 ≤ (a[k]).1 ∧ (a[k]).1 ≤ 1114111 ∧ 0 ≤ (a[k]).2 ∧ (a[k]).2 ≤ 1114111 := by
  have := (okR_iff _).1 (((rangesE_ok a).1 h).2 _ (List.getElem_mem hk))
  omega
def GapTo (a : List (Int × Int)) (k : Nat) : Prop := ∀ i, (hi : i + 1 < a.length) → i + 1 < k → (a[i]).2 + 2 ≤ (a[i + 1]).1
theorem GapTo.one (a : List (Int × Int)) : GapTo a 1 := fun i hi h => by omega
theorem GapTo.succ {a : List (Int × Int)} {k : Nat} (h : GapTo a (k + 1)) (hk : k + 1 < a.length) (hg : (a[k]).2 + 2 ≤ (a[k + 1]).1) : GapTo a (k + 2) := by
  intro i hi hlt
  by_cases e : i = k
  · subst e; exact hg
  · exact h i hi (by omega)
/-- what is wrong with two sets -/
def chk2 (a b : List (Int × Int)) : Int := if chk a = 0 then chk b else chk a
end Go.Proofs.YtoilhjpbkbdifaaGreat
