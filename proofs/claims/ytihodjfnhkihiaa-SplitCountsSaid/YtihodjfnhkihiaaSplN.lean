/- roads that a callee made, turned one by one and appended: the step, plain. -/
import Derived.Test.YtihodjfnhkihiaaSplL
namespace Go.Proofs.Ytihodjfnhkihiaa
open Go.RowKit
set_option linter.unusedVariables false
def TJ (W1 w3 : World) (H1 H2 : Nat) (o : Value) (n : Nat) (vs0 : List Value) (ms : List (List (Int × Int))) (A2 : Option Addr) (m2 k2 : Nat) (vs2 : List Value) (ls2 : List (List (Int × Int))) (little : Bool) (i j : Nat) : Prop :=
  w3.ownsRow W1.heap.size 22 1 o n (vs0 ++ vs2.take i) ∧ OwnSls w3 W1.heap.size (vs0 ++ vs2.take i) (ms ++ (ls2.take i).map (turnB little)) ∧ Below W1.heap.size W1 w3 ∧ (∀ g, o.ownBlock = some g → g < H1 ∨ H2 ≤ g) ∧ Mid w3 H1 H2 A2 m2 k2 vs2 (turnJ little ls2 j)
section
variable {W1 w3 w4 w5 : World} {H1 H2 n m2 k2 j k : Nat} {o v5 : Value} {vs0 vs2 : List Value} {ms ls2 : List (List (Int × Int))} {A2 : Option Addr} {little : Bool}
theorem TJ.turn (h : TJ W1 w3 H1 H2 o n vs0 ms A2 m2 k2 vs2 ls2 little j j) (hw : W1.heap.size ≤ H1) (hj : j < vs2.length) (hl : j < ls2.length) (hf : ∀ u ∈ vs0, ∀ x ∈ vs2, ∀ g, u.ownBlock = some g → x.ownBlock ≠ some g)
    (hr : w4.ownsRow H1 31 2 vs2[j] k (rngs (turnB little ls2[j]))) (hr3 : w3.ownsRow H1 31 2 vs2[j] k (rngs ls2[j])) (hg : w3.grownBy w4 vs2[j].ownBlock) : TJ W1 w4 H1 H2 o n vs0 ms A2 m2 k2 vs2 ls2 little j (j + 1) := by
  obtain ⟨h1, h2, h3, h4, h5⟩ := h
  refine ⟨own_kept h1 hg (own_ne_type hr3 h1 (by decide)), h2.keptBy hg ?_, ?_, h4, own_kept h5.1 hg (own_ne_type hr3 h5.1 (by decide)), ?_, h5.2.2.1, Nat.le_trans h5.2.2.2 hg.size⟩
  · intro u hu g hv hug
    rcases List.mem_append.1 hu with hu | hu
    · exact hf u hu _ (List.getElem_mem hj) g hug hv
    · obtain ⟨i, hi, rfl⟩ := List.mem_take_iff_getElem.1 hu
      exact List.pairwise_iff_getElem.1 h5.2.1.2.2 i j (by omega) hj (by omega) g hug hv
  · exact h3.grown hg h3.size fun q hq => by have := hr3.lt q hq; omega
  · rw [← turnJ_succ little ls2 hl]
    exact h5.2.1.turned hj hr hg
theorem TJ.push (h : TJ W1 w4 H1 H2 o n vs0 ms A2 m2 k2 vs2 ls2 little j (j + 1)) (hw : W1.heap.size ≤ H1) (hj : j < vs2.length) (hl : j < ls2.length) (hf : ∀ u ∈ vs0, ∀ x ∈ vs2, ∀ g, u.ownBlock = some g → x.ownBlock ≠ some g)
    (hr : w4.ownsRow H1 31 2 vs2[j] k (rngs (turnB little ls2[j]))) (x : Obj) (hown : w5.ownsRow W1.heap.size 22 1 v5 (n + 1) ((vs0 ++ vs2.take j) ++ [vs2[j]])) (hg : (w4.alloc x).grownBy w5 o.ownBlock) (hat : v5.ownBlock = o.ownBlock ∨ v5.ownBlock = some (w4.alloc x).heap.size) :
    TJ W1 w5 H1 H2 v5 (n + 1) vs0 ms A2 m2 k2 vs2 ls2 little (j + 1) (j + 1) := by
  obtain ⟨h1, h2, h3, h4, h5⟩ := h
  have h1a := h1.alloc x
  have h5a : Mid (w4.alloc x) H1 H2 A2 m2 k2 vs2 (turnJ little ls2 (j + 1)) := ⟨h5.1.alloc x, h5.2.1.alloc x, h5.2.2.1, Nat.le_trans h5.2.2.2 (by simp)⟩
  have e1 : vs0 ++ vs2.take (j + 1) = (vs0 ++ vs2.take j) ++ [vs2[j]] := by rw [List.take_succ_eq_append_getElem hj, List.append_assoc]
  have e2 : ms ++ (ls2.take (j + 1)).map (turnB little) = (ms ++ (ls2.take j).map (turnB little)) ++ [turnB little ls2[j]] := by rw [List.take_succ_eq_append_getElem hl, List.map_append, List.append_assoc]; rfl
  refine ⟨by rw [e1]; exact hown, ?_, grown_own (h3.alloc h3.size _) h1a hg (Nat.le_refl _) (by have := h3.size; simp; omega), ?_, h5a.kept h1a hg h4⟩
  · rw [e1, e2]
    refine OwnSls.kept ((h2.alloc x).append (OwnSls.one ((own_mono hr hw).alloc x)) ?_) h1a hg
    intro u hu y hy g h6 h7
    rw [List.mem_singleton.1 hy] at h7
    rcases List.mem_append.1 hu with hu | hu
    · exact hf u hu _ (List.getElem_mem hj) g h6 h7
    · obtain ⟨i, hi, rfl⟩ := List.mem_take_iff_getElem.1 hu
      exact List.pairwise_iff_getElem.1 h5.2.1.2.2 i j (by omega) hj (by omega) g h6 h7
  · intro g hv
    rcases hat with e | e
    · exact h4 g (by rw [← e]; exact hv)
    · rw [e] at hv
      injection hv with hv
      exact .inr (by rw [← hv]; exact h5a.2.2.2)
end
end Go.Proofs.Ytihodjfnhkihiaa
