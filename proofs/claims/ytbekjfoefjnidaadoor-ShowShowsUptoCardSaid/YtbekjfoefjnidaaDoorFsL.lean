/- wide: walked. -/
import Derived.Test.YtbekjfoefjnidaaDoorFsG
namespace Go.Proofs.YtbekjfoefjnidaaDoor
open Go.RowKit
set_option linter.unusedVariables false
theorem right_kids {t : Tr} (h : rightE t = 0) : kidsBad t = false := by
  unfold rightE at h
  split at h
  · cases h
  · split at h
    · cases h
    · rename_i h2
      cases hk : kidsBad t
      · rfl
      · rw [hk] at h2; simp at h2
theorem flat_kid {t k x : Tr} (hk : k ∈ t.kids) (hx : x ∈ flatT k) : x ∈ flatT t := by
  rw [flatT_eq]
  refine List.mem_cons_of_mem _ ?_
  have : ∀ ks : List Tr, k ∈ ks → x ∈ flatL ks := by
    intro ks
    induction ks with
    | nil => intro h; cases h
    | cons y ks ih2 =>
      intro h
      rw [flatL, List.mem_append]
      rcases List.mem_cons.1 h with e | e
      · subst e; exact .inl hx
      · exact .inr (ih2 e)
  exact this _ hk
theorem headD_map : ∀ (l : List Tr) (h : 0 < l.length), (l.map widT).headD (0, 0) = widT l[0]
  | [], h => by simp at h
  | _ :: _, _ => rfl
end Go.Proofs.YtbekjfoefjnidaaDoor
