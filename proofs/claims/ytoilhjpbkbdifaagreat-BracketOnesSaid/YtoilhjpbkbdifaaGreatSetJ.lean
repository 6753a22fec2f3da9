/-
  check of the program, over one or more lists: walked.
-/
import Derived.Test.YtoilhjpbkbdifaaGreatSetH
namespace Go.Proofs.YtoilhjpbkbdifaaGreat
open Go.RowKit
set_option linter.unusedVariables false
def chkL : List (List (Int × Int)) → Int
  | [] => 0
  | a :: l => if chk a = 0 then chkL l else chk a
theorem chkL_at : ∀ (ls : List (List (Int × Int))) (k : Nat) (hk : k < ls.length), (∀ i (hi : i < ls.length), i < k → chk ls[i] = 0) → chk ls[k] ≠ 0 → chkL ls = chk ls[k]
  | [], k, hk, _, _ => by simp at hk
  | a :: l, 0, _, _, h => by
    have h' : chk a ≠ 0 := h
    simp [chkL, h']
  | a :: l, k + 1, hk, hall, h => by
    have h0 : chk a = 0 := hall 0 (by simp) (by omega)
    simp only [chkL, h0, if_true]
    exact chkL_at l k (by simpa using hk) (fun i hi hlt => hall (i + 1) (by simpa using hi) (by omega)) h
theorem chkL_all : ∀ (ls : List (List (Int × Int))), (∀ i (hi : i < ls.length), chk ls[i] = 0) → chkL ls = 0
  | [], _ => rfl
  | a :: l, h => by
    have h0 : chk a = 0 := h 0 (by simp)
    simp only [chkL, h0, if_true]
    exact chkL_all l fun i hi => h (i + 1) (by simpa using hi)
/-- slices of ranges that each read ls a list -/
def Sls (w : World) (X : Nat) (vs : List Value) (ls : List (List (Int × Int))) : Prop :=
  vs.length = ls.length ∧ ∀ k (h : k < vs.length) (h' : k < ls.length), ∃ A n c, vs[k] = .slice A n c ∧ n ≤ c ∧ c ≤ maxLen ∧ Rds w X 2 A n (rngs ls[k])
theorem Sls.below {w w' : World} {X C : Nat} {vs : List Value} {ls : List (List (Int × Int))} (h : Sls w X vs ls) (hb : Below C w w') (hC : X ≤ C) : Sls w' X vs ls :=
  ⟨h.1, fun k h1 h2 => by obtain ⟨A, n, c, e, a1, a2, a3⟩ := h.2 k h1 h2; exact ⟨A, n, c, e, a1, a2, a3.below hb hC⟩⟩
end Go.Proofs.YtoilhjpbkbdifaaGreat
