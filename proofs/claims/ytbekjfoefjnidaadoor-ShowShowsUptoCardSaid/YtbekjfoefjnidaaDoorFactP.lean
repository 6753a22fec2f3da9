/-
  What is wrong with a tree, plain: node by node in one row, or kid by kid; how wide a tree is. No condition.
-/
import Derived.Test.YtbekjfoefjnidaaDoorTree
import Derived.Test.YtbekjfoefjnidaaDoorSetA
namespace Go.Proofs.YtbekjfoefjnidaaDoor
set_option linter.unusedVariables false
mutual
/-- all nodes, each ahead of its kids -/
def flatT : Tr → List Tr
  | .mk a b ks c d e f g => .mk a b ks c d e f g :: flatL ks
def flatL : List Tr → List Tr
  | [] => []
  | t :: ts => flatT t ++ flatL ts
end
theorem flatT_eq (t : Tr) : flatT t = t :: flatL t.kids := by cases t; rw [flatT]; rfl
theorem flatL_append (a b : List Tr) : flatL (a ++ b) = flatL a ++ flatL b := by
  induction a with
  | nil => rfl
  | cons t a ih => rw [List.cons_append, flatL, flatL, ih, List.append_assoc]
theorem flatT_len (t : Tr) : (flatT t).length = sizeT t := by
  refine tree_ind (P := fun t => (flatT t).length = sizeT t) (fun t ih => ?_) t
  have h : ∀ ks : List Tr, (∀ k ∈ ks, k ∈ t.kids) → (flatL ks).length = sizeL ks := by
    intro ks
    induction ks with
    | nil => intro _; rfl
    | cons k ks ih2 =>
      intro hm
      rw [flatL, List.length_append, sizeL, ih k (hm k (by simp)), ih2 fun x hx => hm x (by simp [hx])]
  rw [flatT_eq, List.length_cons, h t.kids (fun _ hk => hk), sizeT_eq]; omega
/-! ### one node -/
def kidsBad (t : Tr) : Bool := if t.kind = 9 ∨ t.kind = 10 then decide (t.kids.length < 2) else if 11 ≤ t.kind ∧ t.kind ≤ 17 then t.kids.length != 1 else t.kids.length != 0
def kidBad (k x : Int) : Bool := (k == 9 && (x == 9 || x == 1)) || (k == 10 && x == 10)
def fieldsBad (t : Tr) : Bool := (t.kind != 2 && decide (0 < t.set.length)) || (t.kind != 12 && (t.least != 0 || t.most != 0 || t.way != 0)) || (t.kind != 11 && t.kind != 18 && t.num != 0) || (t.kind != 18 && t.fold) || t.kids.any fun x => kidBad t.kind x.kind
def repE (t : Tr) : Int := if (t.least < 0 ∨ 100 < t.least) ∨ t.most < -1 ∨ 100 < t.most ∨ (0 ≤ t.most ∧ t.most < t.least) then 3 else if ¬ (1 ≤ t.way ∧ t.way ≤ 3) then 7 else 0
def rightE (t : Tr) : Int := if t.kind < 1 ∨ 18 < t.kind then 7 else if (kidsBad t || fieldsBad t) = true then 1 else if t.kind = 2 then chk t.set else if t.kind = 12 then repE t else 0
/-! ### a row of nodes -/
def stepE (x : Tr) (g : Int) : Int × Int := if rightE x ≠ 0 then (rightE x, g) else if x.kind = 11 then (if x.num = g + 1 then (0, g + 1) else (4, g + 1)) else (0, g)
def seqE : List Tr → Int → Int × Int
  | [], g => (0, g)
  | x :: l, g => if (stepE x g).1 ≠ 0 then stepE x g else seqE l (stepE x g).2
theorem seqE_append (a b : List Tr) (g : Int) : seqE (a ++ b) g = if (seqE a g).1 ≠ 0 then seqE a g else seqE b (seqE a g).2 := by
  induction a generalizing g with
  | nil => simp [seqE]
  | cons x a ih =>
    rw [List.cons_append, seqE, seqE]
    by_cases h : (stepE x g).1 ≠ 0
    · rw [if_pos h, if_pos h, if_pos h]
    · rw [if_neg h, if_neg h, ih]
mutual
/-- kid by kid -/
def nodeE : Tr → Int → Int × Int
  | .mk a b ks c d e f h, g => if (stepE (.mk a b ks c d e f h) g).1 ≠ 0 then stepE (.mk a b ks c d e f h) g else nodesE ks (stepE (.mk a b ks c d e f h) g).2
def nodesE : List Tr → Int → Int × Int
  | [], g => (0, g)
  | k :: ks, g => if (nodeE k g).1 ≠ 0 then nodeE k g else nodesE ks (nodeE k g).2
end
theorem nodeE_eq (t : Tr) (g : Int) : nodeE t g = if (stepE t g).1 ≠ 0 then stepE t g else nodesE t.kids (stepE t g).2 := by cases t; rw [nodeE]; rfl
theorem nodeE_seq (t : Tr) : ∀ g, nodeE t g = seqE (flatT t) g := by
  refine tree_ind (P := fun t => ∀ g, nodeE t g = seqE (flatT t) g) (fun t ih => ?_) t
  intro g
  have h : ∀ ks : List Tr, (∀ k ∈ ks, k ∈ t.kids) → ∀ g, nodesE ks g = seqE (flatL ks) g := by
    intro ks
    induction ks with
    | nil => intro _ g; rfl
    | cons k ks ih2 =>
      intro hm g
      rw [nodesE, flatL, seqE_append, ih k (hm k (by simp)), ih2 fun x hx => hm x (by simp [hx])]
  rw [nodeE_eq, flatT_eq, seqE, h t.kids (fun _ hk => hk)]
/-- groups of a row -/
def grpL (l : List Tr) : Nat := (l.filter fun x => x.kind == 11).length
theorem grpL_append (a b : List Tr) : grpL (a ++ b) = grpL a + grpL b := by simp [grpL]
theorem seqE_groups (l : List Tr) (g : Int) (h : (seqE l g).1 = 0) : (seqE l g).2 = g + (grpL l : Int) ∧ ∀ x ∈ l, rightE x = 0 := by
  induction l generalizing g with
  | nil => simp [seqE, grpL]
  | cons x l ih =>
    rw [seqE] at h ⊢
    by_cases h1 : (stepE x g).1 ≠ 0
    · rw [if_pos h1] at h; exact absurd h h1
    · rw [if_neg h1] at h ⊢
      obtain ⟨i1, i2⟩ := ih _ h
      have h2 : rightE x = 0 := by
        by_cases h3 : rightE x = 0
        · exact h3
        · exfalso; apply h1; unfold stepE; rw [if_pos h3]; exact h3
      refine ⟨?_, fun y hy => by rcases List.mem_cons.1 hy with e | e; subst e; exact h2; exact i2 y e⟩
      rw [i1]
      have h3 : (stepE x g).2 = if x.kind = 11 then g + 1 else g := by
        unfold stepE
        rw [if_neg (by rw [h2]; simp)]
        split
        · split <;> rfl
        · rfl
      rw [h3]
      unfold grpL
      by_cases h4 : x.kind = 11
      · rw [if_pos h4, List.filter_cons_of_pos (by simpa using h4)]; simp; omega
      · rw [if_neg h4, List.filter_cons_of_neg (by simpa using h4)]
/-! ### what a pattern without names is told -/
def againsBad (l : List Tr) (g : Int) : Bool := l.any fun x => x.kind == 18 && !(decide (1 ≤ x.num) && decide (x.num ≤ g))
/-- the errno of a pattern as such (its names come behind) -/
def treeE (t : Tr) (groups : Int) : Int :=
  if tooG t = true then 2 else if (seqE (flatT t) 0).1 ≠ 0 then (seqE (flatT t) 0).1 else if 20 < (seqE (flatT t) 0).2 then 2 else if groups ≠ (seqE (flatT t) 0).2 then 4 else if againsBad (flatT t) (seqE (flatT t) 0).2 = true then 5 else 0
def aloneE (t : Tr) : Int := treeE t (grpL (flatT t) : Int)
/-! ### how wide -/
def capW (w : Int × Int) : Int × Int := (min w.1 1000000, if 1000000 < w.2 then -1 else w.2)
def addW (a b : Int × Int) : Int × Int := capW (a.1 + b.1, if a.2 < 0 ∨ b.2 < 0 then -1 else a.2 + b.2)
def timesW (a : Int × Int) (l m : Int) : Int × Int := capW (a.1 * l, if (a.2 < 0 ∧ m ≠ 0) ∨ (m < 0 ∧ a.2 ≠ 0) then -1 else a.2 * m)
def eitherW (a b : Int × Int) : Int × Int := (min a.1 b.1, if a.2 < 0 ∨ b.2 < 0 then -1 else max a.2 b.2)
def widK (k : Int) (l : List (Int × Int)) (least most : Int) : Int × Int :=
  if k = 2 then (1, 1) else if k = 18 then (0, -1) else if k = 11 ∨ k = 13 then l.headD (0, 0) else if k = 12 then timesW (l.headD (0, 0)) least most
  else if k = 9 then l.foldl addW (0, 0) else if k = 10 then l.tail.foldl eitherW (l.headD (0, 0)) else (0, 0)
mutual
def widT : Tr → Int × Int
  | .mk k _ ks _ least most _ _ => widK k (widL ks) least most
def widL : List Tr → List (Int × Int)
  | [] => []
  | t :: ts => widT t :: widL ts
end
theorem widT_eq (t : Tr) : widT t = widK t.kind (widL t.kids) t.least t.most := by cases t; rw [widT]; rfl
theorem widL_map (l : List Tr) : widL l = l.map widT := by
  induction l with
  | nil => rfl
  | cons t l ih => rw [widL, ih]; rfl
def okW (w : Int × Int) : Prop := (0 ≤ w.1 ∧ w.1 ≤ 1000000) ∧ -1 ≤ w.2 ∧ w.2 ≤ 1000000
theorem okW_cap {a b : Int} (ha : 0 ≤ a) (hb : -1 ≤ b) : okW (capW (a, b)) := by
  unfold capW okW
  refine ⟨by simp only; omega, ?_⟩
  simp only
  split <;> omega
theorem okW_add {a b : Int × Int} (ha : okW a) (hb : okW b) : okW (addW a b) := by
  unfold okW at ha hb
  refine okW_cap (by omega) ?_
  split <;> omega
theorem okW_either {a b : Int × Int} (ha : okW a) (hb : okW b) : okW (eitherW a b) := by
  unfold okW eitherW at *
  refine ⟨by simp only; omega, ?_⟩
  simp only
  split <;> omega
theorem okW_times {a : Int × Int} {l m : Int} (ha : okW a) (hl : 0 ≤ l) (hm : -1 ≤ m) : okW (timesW a l m) := by
  unfold okW at ha
  refine okW_cap (Int.mul_nonneg ha.1.1 hl) ?_
  split
  · omega
  · rename_i h
    by_cases h0 : 0 ≤ a.2
    · by_cases h1 : 0 ≤ m
      · have := Int.mul_nonneg h0 h1; omega
      · have : a.2 = 0 := Classical.byContradiction fun e => h (.inr ⟨by omega, e⟩)
        rw [this]; simp
    · have : m = 0 := Classical.byContradiction fun e => h (.inl ⟨by omega, e⟩)
      rw [this]; simp
/-- the reference's three ways, and the program's one -/
theorem times_ref (a : Int × Int) (l m : Int) : timesW a l m = if a.2 = 0 ∨ m = 0 then capW (a.1 * l, 0) else if a.2 < 0 ∨ m < 0 then capW (a.1 * l, -1) else capW (a.1 * l, a.2 * m) := by
  unfold timesW
  by_cases h : a.2 = 0 ∨ m = 0
  · rw [if_pos h, if_neg (by omega)]
    rcases h with h | h <;> rw [h] <;> simp
  · rw [if_neg h]
    by_cases h2 : a.2 < 0 ∨ m < 0
    · rw [if_pos h2, if_pos (by omega)]
    · rw [if_neg h2, if_neg (by omega)]
theorem headD_ok {l : List (Int × Int)} (h : ∀ w ∈ l, okW w) : okW (l.headD (0, 0)) := by
  cases l with
  | nil => unfold okW; simp
  | cons a l => exact h a (by simp)
theorem foldl_ok {f : Int × Int → Int × Int → Int × Int} (hf : ∀ a b, okW a → okW b → okW (f a b)) (l : List (Int × Int)) (h : ∀ w ∈ l, okW w) (a : Int × Int) (ha : okW a) : okW (l.foldl f a) := by
  induction l generalizing a with
  | nil => exact ha
  | cons b l ih => exact ih (fun w hw => h w (by simp [hw])) _ (hf a b ha (h b (by simp)))
theorem rightE_rep {t : Tr} (h : rightE t = 0) (hk : t.kind = 12) : 0 ≤ t.least ∧ t.least ≤ 100 ∧ -1 ≤ t.most ∧ t.most ≤ 100 := by
  unfold rightE at h
  rw [if_neg (by omega)] at h
  split at h
  · cases h
  · rw [if_neg (by omega)] at h
    try rw [if_pos hk] at h
    unfold repE at h
    split at h
    · cases h
    · omega
theorem widT_ok (t : Tr) (h : ∀ x ∈ flatT t, rightE x = 0) : okW (widT t) := by
  refine tree_ind (P := fun t => (∀ x ∈ flatT t, rightE x = 0) → okW (widT t)) (fun t ih h => ?_) t h
  have hk : ∀ k ∈ t.kids, okW (widT k) := fun k hk => ih k hk fun x hx => h x (by
    rw [flatT_eq]
    refine List.mem_cons_of_mem _ ?_
    have : ∀ ks : List Tr, k ∈ ks → x ∈ flatL ks := by
      intro ks
      induction ks with
      | nil => intro h; cases h
      | cons y ks ih2 =>
        intro h
        rw [flatL, List.mem_append]
        rcases List.mem_cons.1 h with e | e
        · subst e; exact .inl hx
        · exact .inr (ih2 e)
    exact this _ hk)
  have hl : ∀ w ∈ widL t.kids, okW w := fun w hw => by
    rw [widL_map] at hw
    obtain ⟨k, hk2, rfl⟩ := List.mem_map.1 hw
    exact hk k hk2
  have hr := h t (by rw [flatT_eq]; simp)
  rw [widT_eq]
  unfold widK
  split
  · unfold okW; simp
  · split
    · unfold okW; simp
    · split
      · exact headD_ok hl
      · split
        · rename_i h12
          have := rightE_rep hr h12
          exact okW_times (headD_ok hl) this.1 this.2.2.1
        · split
          · exact foldl_ok (fun _ _ => okW_add) _ hl _ (by unfold okW; simp)
          · split
            · exact foldl_ok (fun _ _ => okW_either) _ (fun w hw => hl w (List.mem_of_mem_tail hw)) _ (headD_ok hl)
            · unfold okW; simp
/-! ### plain -/
def plainT (t : Tr) : Bool := (flatT t).all fun x => !((decide (3 ≤ x.kind) && decide (x.kind ≤ 8)) || (decide (14 ≤ x.kind) && decide (x.kind ≤ 18)))
end Go.Proofs.YtbekjfoefjnidaaDoor
