/- The recovery: laws for operations of a deferred function, one by one. -/
import Derived.Test.YtmjlmjlkghpknaaTkR
import Derived.Defers
import Derived.Recover
namespace Go.Proofs.Ytmjlmjlkghpknaa
open Go.RowKit
set_option linter.unusedVariables false
def wpL (P : Program) (Q : Exit → Act → List Frame → World → Prop) : List Oper → Act → List Frame → World → Prop
  | [], a, cs, w => Q .normal a cs w
  | o :: rest, a, cs, w => o.guard = none ∧ match (execOp a.eval o).run P w with
    | .ok .recover w' => (match recoverD cs with
      | some (v, cs') => wpL P Q rest (a.put o.dst v) cs' w'
      | none => wpL P Q rest (a.put o.dst .nilIface) cs w')
    | .ok (.value v) w' => wpL P Q rest (a.put o.dst v) cs w'
    | .ok .skip w' => wpL P Q rest (a.put o.dst undef) cs w'
    | _ => False
section
variable {P : Program} {ops : Array Oper} {Q : Exit → Act → List Frame → World → Prop}
theorem wpOpsS_of_L : ∀ (os : List Oper) (k : Nat) (a : Act) (cs : List Frame) (w : World), ops.toList.drop k = os → wpL P Q os a cs w → wpOpsS P ops Q (List.range' k os.length) a cs w := by
  intro os
  induction os with
  | nil => intro k a cs w _ h; exact h
  | cons o rest ih =>
    intro k a cs w hk h
    have hlt : k < ops.toList.length := by
      rcases Nat.lt_or_ge k ops.toList.length with h' | h'
      · exact h'
      · rw [List.drop_eq_nil_of_le h'] at hk; cases hk
    have ho : ops[k]? = some o := by
      rw [List.drop_eq_getElem_cons hlt] at hk
      injection hk with h1 h2
      rw [← h1]
      simp at hlt
      simp [hlt]
    have hr : ops.toList.drop (k + 1) = rest := by
      rw [List.drop_eq_getElem_cons hlt] at hk
      injection hk
    rw [List.length_cons, List.range'_succ, wpOpsS, ho]
    obtain ⟨hg, h⟩ := h
    simp only [Region.wanted, hg, if_true]
    split at h
    · rename_i w' e
      rw [e]
      simp only
      split at h
      · rename_i v cs' e2
        rw [e2]; exact ih _ _ _ _ hr h
      · rename_i e2
        rw [e2]; exact ih _ _ _ _ hr h
    · rename_i v w' e
      rw [e]; exact ih _ _ _ _ hr h
    · rename_i w' e
      rw [e]; exact ih _ _ _ _ hr h
    · exact h.elim
theorem wpS_regionL {id : Nat} {a : Act} {cs : List Frame} {w : World} (h : wpL P Q ops.toList a cs w) : (Code.region id ops false).wpS P Q a cs w := by
  refine wpS_region ?_
  have := wpOpsS_of_L (P := P) (Q := Q) (ops := ops) ops.toList 0 a cs w (List.drop_zero ..) h
  rwa [Array.length_toList, ← List.range_eq_range'] at this
variable {a : Act} {cs cs' : List Frame} {w w' : World} {o : Oper} {rest : List Oper} {v : Value}
theorem wpL_recover (hg : o.guard = none) (hr : (execOp a.eval o).run P w = .ok .recover w) (hc : recoverD cs = some (v, cs')) (h : wpL P Q rest (a.put o.dst v) cs' w) : wpL P Q (o :: rest) a cs w := by
  refine ⟨hg, ?_⟩; rw [hr]; simp only [hc]; exact h
theorem wpL_recover_none (hg : o.guard = none) (hr : (execOp a.eval o).run P w = .ok .recover w) (hc : recoverD cs = none) (h : wpL P Q rest (a.put o.dst .nilIface) cs w) : wpL P Q (o :: rest) a cs w := by
  refine ⟨hg, ?_⟩; rw [hr]; simp only [hc]; exact h
theorem wpL_value (hg : o.guard = none) (hr : (execOp a.eval o).run P w = .ok (.value v) w') (h : wpL P Q rest (a.put o.dst v) cs w') : wpL P Q (o :: rest) a cs w := by
  refine ⟨hg, ?_⟩; rw [hr]; exact h
theorem wpL_skip (hg : o.guard = none) (hr : (execOp a.eval o).run P w = .ok .skip w') (h : wpL P Q rest (a.put o.dst undef) cs w') : wpL P Q (o :: rest) a cs w := by
  refine ⟨hg, ?_⟩; rw [hr]; exact h
end
end Go.Proofs.Ytmjlmjlkghpknaa
