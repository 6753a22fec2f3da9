/- What first answers, plain: who has no most has no least; rows of ranges that are right. -/
import Derived.Test.YtbekjfoefjnidaaFsL
namespace Go.Proofs.Ytbekjfoefjnidaa
open Go.RowKit
set_option linter.unusedVariables false
def leW (w : Int × Int) : Prop := 0 ≤ w.2 → w.1 ≤ w.2
theorem leW_cap {a b : Int} (h : 0 ≤ b → a ≤ b) : leW (capW (a, b)) := by
  unfold capW leW
  simp only
  intro h1
  split at h1
  · omega
  · rename_i h2; rw [if_neg h2]; have := h h1; omega
theorem leW_add {a b : Int × Int} (ha : leW a) (hb : leW b) : leW (addW a b) := by
  unfold leW at ha hb
  refine leW_cap ?_
  split
  · omega
  · intro h; have := ha (by omega); have := hb (by omega); omega
theorem leW_either {a b : Int × Int} (ha : leW a) (hb : leW b) : leW (eitherW a b) := by
  unfold leW eitherW at *
  simp only
  intro h
  split at h
  · omega
  · rename_i h2; rw [if_neg h2]; have := ha (by omega); have := hb (by omega); omega
theorem leW_times {a : Int × Int} {l m : Int} (hk : okW a) (ha : leW a) (hl : 0 ≤ l) (hm : -1 ≤ m) (hlm : 0 ≤ m → l ≤ m) : leW (timesW a l m) := by
  unfold okW at hk
  unfold leW at ha
  refine leW_cap ?_
  split
  · omega
  · rename_i h
    intro _
    by_cases h2 : a.2 < 0
    · have hm0 : m = 0 := Classical.byContradiction fun e => h (.inl ⟨h2, e⟩)
      have hl0 : l = 0 := by have := hlm (by omega); omega
      rw [hm0, hl0]; simp
    · by_cases h3 : m < 0
      · have ha0 : a.2 = 0 := Classical.byContradiction fun e => h (.inr ⟨h3, e⟩)
        have : a.1 = 0 := by have := ha (by omega); omega
        rw [this, ha0]; simp
      · exact Int.mul_le_mul (ha (by omega)) (hlm (by omega)) hl (by omega)
theorem leW_foldl {f : Int × Int → Int × Int → Int × Int} (hf : ∀ a b, leW a → leW b → leW (f a b)) (l : List (Int × Int)) (h : ∀ w ∈ l, leW w) (a : Int × Int) (ha : leW a) : leW (l.foldl f a) := by
  induction l generalizing a with
  | nil => exact ha
  | cons b l ih => exact ih (fun w hw => h w (by simp [hw])) _ (hf a b ha (h b (by simp)))
theorem rightE_lm {t : Tr} (h : rightE t = 0) (hk : t.kind = 12) : 0 ≤ t.most → t.least ≤ t.most := by
  unfold rightE at h
  rw [if_neg (by omega)] at h
  split at h
  · cases h
  · rw [if_neg (by omega)] at h
    try rw [if_pos hk] at h
    unfold repE at h
    split at h
    · cases h
    · omega
theorem wid_le (t : Tr) (h : ∀ x ∈ flatT t, rightE x = 0) : leW (widT t) := by
  refine tree_ind (P := fun t => (∀ x ∈ flatT t, rightE x = 0) → leW (widT t)) (fun t ih h => ?_) t h
  have hk : ∀ k ∈ t.kids, leW (widT k) := fun k hk => ih k hk fun x hx => h x (flat_kid hk hx)
  have hko : ∀ k ∈ t.kids, okW (widT k) := fun k hk => widT_ok k fun x hx => h x (flat_kid hk hx)
  have hl : ∀ w ∈ widL t.kids, leW w := fun w hw => by
    rw [widL_map] at hw
    obtain ⟨k, hk2, rfl⟩ := List.mem_map.1 hw
    exact hk k hk2
  have hlo : ∀ w ∈ widL t.kids, okW w := fun w hw => by
    rw [widL_map] at hw
    obtain ⟨k, hk2, rfl⟩ := List.mem_map.1 hw
    exact hko k hk2
  have hd : leW ((widL t.kids).headD (0, 0)) := by
    cases hh : widL t.kids with
    | nil => intro _; exact Int.le_refl _
    | cons a l => exact hl a (by rw [hh]; simp)
  have hr := h t (by rw [flatT_eq]; simp)
  rw [widT_eq]
  unfold widK
  split
  · intro _; exact Int.le_refl _
  · split
    · intro h; simp at h
    · split
      · exact hd
      · split
        · rename_i h12
          have h3 := rightE_rep hr h12
          exact leW_times (headD_ok hlo) hd h3.1 h3.2.2.1 (rightE_lm hr h12)
        · split
          · exact leW_foldl (fun _ _ => leW_add) _ hl _ (fun _ => Int.le_refl _)
          · split
            · exact leW_foldl (fun _ _ => leW_either) _ (fun w hw => hl w (List.mem_of_mem_tail hw)) _ hd
            · intro _; exact Int.le_refl _
theorem wid_zero (t : Tr) (h : ∀ x ∈ flatT t, rightE x = 0) (h0 : (widT t).2 = 0) : (widT t).1 = 0 := by
  have h1 := wid_le t h (by omega)
  have h2 := (widT_ok t h).1.1
  omega
theorem right_set_chk {t : Tr} (h : rightE t = 0) (hk : t.kind = 2) : chk t.set = 0 := by
  unfold rightE at h
  rw [if_neg (by omega)] at h
  split at h
  · cases h
  · first | exact h | (rw [if_pos hk] at h; exact h)
/-- what first answers of a tree that is right -/
structure FSet (t : Tr) (l : List (Int × Int)) : Prop where
  can : Can l
  len : l.length ≤ 400 * sizeT t
  none : (widT t).2 = 0 → l = []
  same : t.kind = 2 → l = t.set
theorem FSet.zero {t : Tr} (h0 : (widT t).2 = 0) : FSet t [] :=
  ⟨.nil, by simp, fun _ => rfl, fun hk => by rw [widT_eq] at h0; unfold widK at h0; rw [if_pos hk] at h0; cases h0⟩
theorem FSet.set {t : Tr} (hr : rightE t = 0) (hk : t.kind = 2) : FSet t t.set := by
  have h := (chk_ok _).1 (right_set_chk hr hk)
  exact ⟨h.2, by have := sizeT_eq t; omega, fun h0 => (by rw [widT_eq] at h0; unfold widK at h0; rw [if_pos hk] at h0; cases h0), fun _ => rfl⟩
theorem FSet.all {t : Tr} (hm : (widT t).2 ≠ 0) (hk : t.kind ≠ 2) : FSet t [(0, 1114111)] :=
  ⟨⟨fun r hr => by rw [List.mem_singleton.1 hr]; rfl, List.pairwise_singleton _ _⟩, by have := sizeT_eq t; simp; omega, fun h => absurd h hm, fun h => absurd h hk⟩
theorem FSet.kid {t k : Tr} {l : List (Int × Int)} (h : FSet k l) (hm : (widT t).2 ≠ 0) (hk : t.kind ≠ 2) (hs : sizeT k ≤ sizeT t) : FSet t l :=
  ⟨h.can, by have := h.len; omega, fun h => absurd h hm, fun h => absurd h hk⟩
/-- a row of ranges that is gathered kid by kid -/
structure FRow (s : Nat) (l : List (Int × Int)) : Prop where
  ok : ∀ r ∈ l, okR r = true
  len : l.length ≤ 400 * s
theorem FRow.nil : FRow 0 [] := ⟨by simp, by simp⟩
theorem FRow.more {s : Nat} {l r : List (Int × Int)} {k : Tr} (h : FRow s l) (hr : FSet k r) : FRow (s + sizeT k) (l ++ r) :=
  ⟨fun x hx => by rcases List.mem_append.1 hx with h1 | h1; exact h.ok x h1; exact hr.can.1 x h1, by have := h.len; have := hr.len; rw [List.length_append]; omega⟩
theorem FRow.raw {s : Nat} {l out : List (Int × Int)} {t : Tr} (h : FRow s l) (hs : s ≤ sizeT t) (ho : IsSet out (mem l)) (hl : out.length ≤ l.length) (hm : (widT t).2 ≠ 0) (hk : t.kind ≠ 2) : FSet t out :=
  ⟨ho.1, by have := h.len; omega, fun h => absurd h hm, fun h => absurd h hk⟩
end Go.Proofs.Ytbekjfoefjnidaa
