/- rows of roads, one of them written: the others are kept. -/
import Derived.Test.YtihodjfnhkihiaaSplK
namespace Go.Proofs.Ytihodjfnhkihiaa
open Go.RowKit
set_option linter.unusedVariables false
theorem OwnSls.turned {w w' : World} {base k n : Nat} {vs : List Value} {ls : List (List (Int × Int))} {r' : List (Int × Int)} (h : OwnSls w base vs ls) (hk : k < vs.length) (hr : w'.ownsRow base 31 2 vs[k] n (rngs r')) (hg : w.grownBy w' vs[k].ownBlock) : OwnSls w' base vs (ls.set k r') := by
  refine ⟨by rw [List.length_set, h.1], fun j h1 h2 => ?_, h.2.2⟩
  rw [List.length_set] at h2
  by_cases e : j = k
  · subst e
    exact ⟨n, by rw [List.getElem_set_self]; exact hr⟩
  · obtain ⟨m, hm⟩ := h.2.1 j h1 h2
    refine ⟨m, ?_⟩
    rw [List.getElem_set_ne (by omega)]
    refine own_kept hm hg fun g hv hj => ?_
    rcases Nat.lt_or_gt_of_ne e with lt | gt
    · exact List.pairwise_iff_getElem.1 h.2.2 j k h1 hk lt g hj hv
    · exact List.pairwise_iff_getElem.1 h.2.2 k j hk h1 gt g hv hj
theorem OwnSls.keptBy {w w' : World} {base : Nat} {v : Value} {vs : List Value} {ls : List (List (Int × Int))} (h : OwnSls w base vs ls) (hg : w.grownBy w' v.ownBlock) (hne : ∀ u ∈ vs, ∀ g, v.ownBlock = some g → u.ownBlock ≠ some g) : OwnSls w' base vs ls :=
  ⟨h.1, fun j h1 h2 => by
    obtain ⟨m, hm⟩ := h.2.1 j h1 h2
    exact ⟨m, own_kept hm hg fun g hv hj => hne _ (List.getElem_mem h1) g hv hj⟩, h.2.2⟩
/-- the first j of the roads turned, if so -/
def turnB (little : Bool) (r : List (Int × Int)) : List (Int × Int) := if little = true then turnL r else r
def turnJ (little : Bool) (ls : List (List (Int × Int))) (j : Nat) : List (List (Int × Int)) := (ls.take j).map (turnB little) ++ ls.drop j
theorem turnJ_zero (little : Bool) (ls : List (List (Int × Int))) : turnJ little ls 0 = ls := rfl
theorem turnJ_at (little : Bool) (ls : List (List (Int × Int))) {j : Nat} (h : j < ls.length) : ∃ h' : j < (turnJ little ls j).length, (turnJ little ls j)[j] = ls[j] := by
  have e : ((ls.take j).map (turnB little)).length = j := by rw [List.length_map, List.length_take]; omega
  refine ⟨by unfold turnJ; rw [List.length_append, e, List.length_drop]; omega, ?_⟩
  unfold turnJ
  rw [List.getElem_append_right (by omega)]
  simp only [e, Nat.sub_self, List.getElem_drop, Nat.add_zero]
theorem turnJ_succ (little : Bool) (ls : List (List (Int × Int))) {j : Nat} (h : j < ls.length) : (turnJ little ls j).set j (turnB little ls[j]) = turnJ little ls (j + 1) := by
  have e : ((ls.take j).map (turnB little)).length = j := by rw [List.length_map, List.length_take]; omega
  unfold turnJ
  rw [List.set_append_right _ _ (by omega), e, Nat.sub_self, List.drop_eq_getElem_cons h, List.set_cons_zero, List.take_succ_eq_append_getElem h, List.map_append, List.append_assoc]
  rfl
end Go.Proofs.Ytihodjfnhkihiaa
