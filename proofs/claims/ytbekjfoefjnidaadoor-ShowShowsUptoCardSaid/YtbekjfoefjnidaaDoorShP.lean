/- What show writes, plain: digits, sets, nodes; how long it is. No condition. -/
import Derived.Test.YtbekjfoefjnidaaDoorFactP
import Derived.Lib.ItoaNum
namespace Go.Proofs.YtbekjfoefjnidaaDoor
set_option linter.unusedVariables false
def hexC (n : Nat) : UInt8 := UInt8.ofNat (if n < 10 then 48 + n else 87 + n)
def hexD (u : Nat) : List UInt8 := if h : u < 16 then [hexC u] else hexD (u / 16) ++ [hexC (u % 16)]
termination_by u
theorem hexD_one {u : Nat} (h : u < 16) : hexD u = [hexC u] := by rw [hexD, dif_pos h]
theorem hexD_more {u : Nat} (h : ¬ u < 16) : hexD u = hexD (u / 16) ++ [hexC (u % 16)] := by rw [hexD, dif_neg h]
theorem hexD_len (k : Nat) : ∀ u, u < 16 ^ (k + 1) → (hexD u).length ≤ k + 1 := by
  induction k with
  | zero => intro u h; rw [hexD_one (by simpa using h)]; simp
  | succ k ih =>
    intro u h
    by_cases h1 : u < 16
    · rw [hexD_one h1]; simp
    · rw [hexD_more h1, List.length_append]
      have := ih (u / 16) (by rw [Nat.pow_succ] at h; omega)
      simp; omega
theorem dec_len (k : Nat) : ∀ u, u < 10 ^ (k + 1) → (Lib.decDigits u).length ≤ k + 1 := by
  induction k with
  | zero => intro u h; rw [Lib.decDigits, dif_pos (by simpa using h)]; simp
  | succ k ih =>
    intro u h
    rw [Lib.decDigits]
    by_cases h1 : u < 10
    · rw [dif_pos h1]; simp
    · rw [dif_neg h1, List.length_append]
      have := ih (u / 10) (by rw [Nat.pow_succ] at h; omega)
      simp; omega
def hexP (n : Int) : List UInt8 := [92, 120, 123] ++ hexD n.toNat ++ [125]
def rngT (r : Int × Int) : List UInt8 := hexP r.1 ++ [45] ++ hexP r.2
def setT (s : List (Int × Int)) : List UInt8 := if s = [] then [91, 94] ++ rngT (0, 1114111) ++ [93] else [91] ++ s.flatMap rngT ++ [93]
def decT (n : Int) : List UInt8 := Lib.decDigits n.toNat
def againT (n : Int) (fold : Bool) : List UInt8 := if fold = true then [40, 63, 105, 58] ++ ([92, 107, 60] ++ decT n ++ [62]) ++ [41] else [92, 107, 60] ++ decT n ++ [62]
def wrapT (must : Bool) (x : List UInt8) : List UInt8 := if must = true then [40, 63, 58] ++ x ++ [41] else x
def markT (k : Int) (s : List UInt8) : List UInt8 := if k = 11 then (if s = [] then [] else [63, 60] ++ s ++ [62]) else if k = 13 then [63, 62] else if k = 14 then [63, 61] else if k = 15 then [63, 33] else if k = 16 then [63, 60, 61] else [63, 60, 33]
def wayT (w : Int) : List UInt8 := if w = 1 then [] else if w = 2 then [63] else [43]
def leafT (k : Int) : List UInt8 := if k = 3 then [94] else if k = 4 then [36] else if k = 5 then [92, 65] else if k = 6 then [92, 122] else if k = 7 then [92, 98] else [92, 66]
/-- kids one behind the other, what is an either in brackets -/
def rowT : List (Int × List UInt8) → List UInt8
  | [] => []
  | x :: l => wrapT (x.1 == 10) x.2 ++ rowT l
/-- kids behind one another, bars ahead of all but the first -/
def barT : List (Int × List UInt8) → List UInt8
  | [] => []
  | x :: l => [124] ++ x.2 ++ barT l
def eithT : List (Int × List UInt8) → List UInt8
  | [] => []
  | x :: l => x.2 ++ barT l
def headT (l : List (Int × List UInt8)) : Int × List UInt8 := l.headD (0, [])
def repMust (k : Int) : Bool := k == 9 || k == 10 || k == 12
def repT (x : Int × List UInt8) (least most way : Int) : List UInt8 := wrapT (repMust x.1) x.2 ++ [123] ++ decT least ++ [44] ++ (if 0 ≤ most then decT most else []) ++ [125] ++ wayT way
def showK (nm : Int → List UInt8) (k : Int) (s : List (Int × Int)) (l : List (Int × List UInt8)) (num least most way : Int) (fold : Bool) : List UInt8 :=
  if k = 1 then [40, 63, 58, 41] else if k = 2 then setT s else if k = 9 then rowT l else if k = 10 then eithT l else if k = 12 then repT (headT l) least most way else if k = 18 then againT num fold
  else if k = 11 ∨ (13 ≤ k ∧ k ≤ 17) then [40] ++ markT k (nm num) ++ (headT l).2 ++ [41] else leafT k
mutual
def showT (nm : Int → List UInt8) : Tr → List UInt8
  | .mk k s ks num least most way fold => showK nm k s (showL nm ks) num least most way fold
def showL (nm : Int → List UInt8) : List Tr → List (Int × List UInt8)
  | [] => []
  | t :: ts => (t.kind, showT nm t) :: showL nm ts
end
theorem showT_eq (nm : Int → List UInt8) (t : Tr) : showT nm t = showK nm t.kind t.set (showL nm t.kids) t.num t.least t.most t.way t.fold := by cases t; rw [showT]; rfl
theorem showL_map (nm : Int → List UInt8) (l : List Tr) : showL nm l = l.map fun t => (t.kind, showT nm t) := by
  induction l with
  | nil => rfl
  | cons t l ih => rw [showL, ih]; rfl
theorem rowT_append (a b : List (Int × List UInt8)) : rowT (a ++ b) = rowT a ++ rowT b := by
  induction a with
  | nil => rfl
  | cons x a ih => rw [List.cons_append, rowT, rowT, ih, List.append_assoc]
theorem barT_append (a b : List (Int × List UInt8)) : barT (a ++ b) = barT a ++ barT b := by
  induction a with
  | nil => rfl
  | cons x a ih => rw [List.cons_append, barT, barT, ih]; simp only [List.append_assoc]
theorem eithT_snoc (a : List (Int × List UInt8)) (x : Int × List UInt8) (h : a ≠ []) : eithT (a ++ [x]) = eithT a ++ ([124] ++ x.2) := by
  cases a with
  | nil => exact absurd rfl h
  | cons y a => rw [List.cons_append, eithT, eithT, barT_append, List.append_assoc]; simp [barT]
/-- a tree whose nodes are right, and speak of groups up to 20 -/
def Well (t : Tr) : Prop := ∀ x ∈ flatT t, rightE x = 0 ∧ (x.kind = 18 → 1 ≤ x.num ∧ x.num ≤ 20)
theorem Well.kid {t k : Tr} (h : Well t) (hk : k ∈ t.kids) : Well k := fun x hx => h x (by
  rw [flatT_eq]
  refine List.mem_cons_of_mem _ ?_
  have : ∀ ks : List Tr, k ∈ ks → x ∈ flatL ks := by
    intro ks
    induction ks with
    | nil => intro h; cases h
    | cons y ks ih2 =>
      intro h
      rw [flatL, List.mem_append]
      rcases List.mem_cons.1 h with e | e
      · subst e; exact .inl hx
      · exact .inr (ih2 e)
  exact this _ hk)
theorem Well.self {t : Tr} (h : Well t) : rightE t = 0 ∧ (t.kind = 18 → 1 ≤ t.num ∧ t.num ≤ 20) := h t (by rw [flatT_eq]; simp)
/-! ### how long -/
theorem hexP_len {n : Int} (h : n ≤ 1114111) : (hexP n).length ≤ 10 := by
  have := hexD_len 5 n.toNat (by have : n.toNat ≤ 1114111 := by omega
                                 exact Nat.lt_of_le_of_lt this (by decide))
  simp [hexP]; omega
theorem rngT_len {r : Int × Int} (h1 : r.1 ≤ 1114111) (h2 : r.2 ≤ 1114111) : (rngT r).length ≤ 21 := by
  have a := hexP_len h1
  have b := hexP_len h2
  simp [rngT]; omega
theorem chk_points {s : List (Int × Int)} (h : chk s = 0) : s.length ≤ 400 ∧ ∀ r ∈ s, 0 ≤ r.1 ∧ r.1 ≤ r.2 ∧ r.2 ≤ 1114111 := by
  unfold chk at h
  split at h
  · cases h
  · split at h
    · cases h
    · rename_i h1 h2
      refine ⟨by omega, fun r hr => ?_⟩
      have := List.all_eq_true.1 (by simpa using h2) r hr
      simp [okR] at this; omega
theorem flat_len {s : List (Int × Int)} (h : ∀ r ∈ s, 0 ≤ r.1 ∧ r.1 ≤ r.2 ∧ r.2 ≤ 1114111) : (s.flatMap rngT).length ≤ 21 * s.length := by
  induction s with
  | nil => simp
  | cons r s ih =>
    have h1 := h r (by simp)
    have h2 := ih fun x hx => h x (by simp [hx])
    have h3 := rngT_len (r := r) (by omega) h1.2.2
    rw [List.flatMap_cons, List.length_append, List.length_cons]; omega
theorem setT_len {s : List (Int × Int)} (h : chk s = 0) : (setT s).length ≤ 8500 := by
  obtain ⟨h1, h2⟩ := chk_points h
  unfold setT
  split
  · have := rngT_len (r := (0, 1114111)) (by decide) (by decide)
    simp; omega
  · have := flat_len h2
    simp only [List.length_append, List.length_cons, List.length_nil]; omega
theorem decT_len {n : Int} (h : n ≤ 100) : (decT n).length ≤ 3 := dec_len 2 n.toNat (by omega)
theorem againT_len {n : Int} {b : Bool} (h : n ≤ 100) : (againT n b).length ≤ 12 := by
  have := decT_len h
  unfold againT
  split <;> (simp; omega)
theorem wrapT_len (b : Bool) (x : List UInt8) : (wrapT b x).length ≤ x.length + 4 := by
  unfold wrapT; split <;> simp
theorem markT_len (k : Int) {s : List UInt8} (h : s.length ≤ 20) : (markT k s).length ≤ 23 := by
  unfold markT
  repeat' split
  all_goals (simp; try omega)
theorem wayT_len (w : Int) : (wayT w).length ≤ 1 := by unfold wayT; repeat' split
                                                       all_goals simp
theorem leafT_len (k : Int) : (leafT k).length ≤ 2 := by unfold leafT; repeat' split
                                                         all_goals simp
theorem rowT_len (nm : Int → List UInt8) (ks : List Tr) (h : ∀ k ∈ ks, (showT nm k).length + 4 ≤ 9000 * sizeT k) : (rowT (showL nm ks)).length ≤ 9000 * sizeL ks := by
  induction ks with
  | nil => simp [showL, rowT]
  | cons k ks ih =>
    have h1 := h k (by simp)
    have h2 := ih fun x hx => h x (by simp [hx])
    have h3 := wrapT_len (k.kind == 10) (showT nm k)
    rw [showL, rowT, sizeL, List.length_append]; simp only at h3 ⊢; omega
theorem barT_len (nm : Int → List UInt8) (ks : List Tr) (h : ∀ k ∈ ks, (showT nm k).length + 4 ≤ 9000 * sizeT k) : (barT (showL nm ks)).length ≤ 9000 * sizeL ks := by
  induction ks with
  | nil => simp [showL, barT]
  | cons k ks ih =>
    have h1 := h k (by simp)
    have h2 := ih fun x hx => h x (by simp [hx])
    rw [showL, barT, sizeL, List.length_append, List.length_append]; simp only [List.length_cons, List.length_nil]; omega
theorem headT_len (nm : Int → List UInt8) (ks : List Tr) (h : ∀ k ∈ ks, (showT nm k).length + 4 ≤ 9000 * sizeT k) : (headT (showL nm ks)).2.length ≤ 9000 * sizeL ks := by
  cases ks with
  | nil => simp [showL, headT]
  | cons k ks =>
    have h1 := h k (by simp)
    simp only [showL, headT, List.headD_cons, sizeL]; omega
theorem eithT_len (nm : Int → List UInt8) (ks : List Tr) (h : ∀ k ∈ ks, (showT nm k).length + 4 ≤ 9000 * sizeT k) : (eithT (showL nm ks)).length ≤ 9000 * sizeL ks := by
  cases ks with
  | nil => simp [showL, eithT]
  | cons k ks =>
    have h1 := h k (by simp)
    have h2 := barT_len nm ks fun x hx => h x (by simp [hx])
    simp only [showL, eithT, sizeL, List.length_append]; omega
theorem showT_len (nm : Int → List UInt8) (hn : ∀ n, (nm n).length ≤ 20) (t : Tr) (h : Well t) : (showT nm t).length + 4 ≤ 9000 * sizeT t := by
  refine tree_ind (P := fun t => Well t → (showT nm t).length + 4 ≤ 9000 * sizeT t) (fun t ih h => ?_) t h
  have hk : ∀ k ∈ t.kids, (showT nm k).length + 4 ≤ 9000 * sizeT k := fun k hk => ih k hk (h.kid hk)
  obtain ⟨hr, ha⟩ := h.self
  rw [showT_eq, sizeT_eq]
  unfold showK
  have hR := rowT_len nm t.kids hk
  have hE := eithT_len nm t.kids hk
  have hH := headT_len nm t.kids hk
  split
  · simp; omega
  split
  · rename_i h2
    have : chk t.set = 0 := by
      unfold rightE at hr
      rw [if_neg (by omega)] at hr
      split at hr
      · cases hr
      · try rw [if_pos h2] at hr
        exact hr
    have := setT_len this
    omega
  split
  · omega
  split
  · omega
  split
  · rename_i h12
    have hb := rightE_rep hr h12
    have a := wrapT_len (repMust (headT (showL nm t.kids)).1) (headT (showL nm t.kids)).2
    have b := decT_len (n := t.least) hb.2.1
    have c : (if 0 ≤ t.most then decT t.most else []).length ≤ 3 := by split; exact decT_len hb.2.2.2; simp
    have d := wayT_len t.way
    unfold repT
    simp only [List.length_append, List.length_cons, List.length_nil]; omega
  split
  · rename_i h18
    have := againT_len (n := t.num) (b := t.fold) (by have := ha h18; omega)
    omega
  split
  · have := markT_len t.kind (hn t.num)
    simp only [List.length_append, List.length_cons, List.length_nil]; omega
  · have := leafT_len t.kind
    omega
end Go.Proofs.YtbekjfoefjnidaaDoor
