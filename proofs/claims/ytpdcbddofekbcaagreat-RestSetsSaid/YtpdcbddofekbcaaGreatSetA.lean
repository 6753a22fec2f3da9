/-
  Sets of points as lists of ranges, in plain Lean: a list of ranges that rise with gaps between them is known by the points that it has.
-/
namespace Go.Proofs.YtpdcbddofekbcaaGreat
set_option linter.unusedVariables false

/-- A range that is right by itself. -/
def okR (r : Int × Int) : Bool := decide (0 ≤ r.1) && decide (r.1 ≤ 1114111) && (decide (0 ≤ r.2) && decide (r.2 ≤ 1114111)) && decide (r.1 ≤ r.2)
theorem okR_iff (r : Int × Int) : okR r = true ↔ 0 ≤ r.1 ∧ r.1 ≤ r.2 ∧ r.2 ≤ 1114111 := by
  simp [okR]; omega
def mem (a : List (Int × Int)) (p : Int) : Prop := ∃ r ∈ a, r.1 ≤ p ∧ p ≤ r.2
def memB (a : List (Int × Int)) (p : Int) : Bool := a.any fun r => decide (r.1 ≤ p) && decide (p ≤ r.2)
theorem memB_iff (a : List (Int × Int)) (p : Int) : memB a p = true ↔ mem a p := by
  simp [memB, mem]
theorem mem_nil (p : Int) : ¬ mem [] p := by simp [mem]
theorem mem_cons (r : Int × Int) (a : List (Int × Int)) (p : Int) : mem (r :: a) p ↔ (r.1 ≤ p ∧ p ≤ r.2) ∨ mem a p := by
  simp [mem]
theorem mem_append (a b : List (Int × Int)) (p : Int) : mem (a ++ b) p ↔ mem a p ∨ mem b p := by
  simp only [mem, List.mem_append]
  constructor
  · rintro ⟨r, h | h, k⟩
    · exact .inl ⟨r, h, k⟩
    · exact .inr ⟨r, h, k⟩
  · rintro (⟨r, h, k⟩ | ⟨r, h, k⟩)
    · exact ⟨r, .inl h, k⟩
    · exact ⟨r, .inr h, k⟩
theorem mem_perm {a b : List (Int × Int)} (h : a.Perm b) (p : Int) : mem a p ↔ mem b p := by
  simp only [mem, h.mem_iff]

/-- Right ranges that rise, with a gap between any two. -/
def Can (a : List (Int × Int)) : Prop := (∀ r ∈ a, okR r = true) ∧ a.Pairwise fun r s => r.2 + 2 ≤ s.1
theorem Can.nil : Can [] := ⟨by simp, .nil⟩
theorem Can.tail {r : Int × Int} {a : List (Int × Int)} (h : Can (r :: a)) : Can a := ⟨fun s hs => h.1 s (.tail _ hs), (List.pairwise_cons.1 h.2).2⟩
theorem Can.head {r : Int × Int} {a : List (Int × Int)} (h : Can (r :: a)) : okR r = true ∧ ∀ s ∈ a, r.2 + 2 ≤ s.1 := ⟨h.1 r (.head _), (List.pairwise_cons.1 h.2).1⟩
theorem Can.snoc {a : List (Int × Int)} {r : Int × Int} (h : Can a) (hr : okR r = true) (hg : ∀ s ∈ a, s.2 + 2 ≤ r.1) : Can (a ++ [r]) := by
  refine ⟨fun s hs => ?_, ?_⟩
  · rcases List.mem_append.1 hs with hs | hs
    · exact h.1 s hs
    · rw [List.mem_singleton.1 hs]; exact hr
  · rw [List.pairwise_append]
    exact ⟨h.2, List.pairwise_singleton _ _, fun s hs t ht => by rw [List.mem_singleton.1 ht]; exact hg s hs⟩
theorem Can.init {a : List (Int × Int)} {r : Int × Int} (h : Can (a ++ [r])) : Can a ∧ okR r = true ∧ ∀ s ∈ a, s.2 + 2 ≤ r.1 := by
  have h2 := List.pairwise_append.1 h.2
  exact ⟨⟨fun s hs => h.1 s (List.mem_append_left _ hs), h2.1⟩, h.1 r (by simp), fun s hs => h2.2.2 s hs r (by simp)⟩
theorem Can.le_head {r : Int × Int} {a : List (Int × Int)} (h : Can (r :: a)) {p : Int} (hp : mem a p) : r.2 + 2 ≤ p := by
  obtain ⟨s, hs, h1, _⟩ := hp
  have := h.head.2 s hs
  omega
theorem Can.ext : ∀ {a b : List (Int × Int)}, Can a → Can b → (∀ p, mem a p ↔ mem b p) → a = b := by
  intro a
  induction a with
  | nil =>
    intro b _ hb h
    cases b with
    | nil => rfl
    | cons s b =>
      have hs := (okR_iff s).1 hb.head.1
      exact absurd ((h s.1).2 ((mem_cons s b s.1).2 (.inl (by omega)))) (mem_nil _)
  | cons r a ih =>
    intro b ha hb h
    cases b with
    | nil =>
      have hr := (okR_iff r).1 ha.head.1
      exact absurd ((h r.1).1 ((mem_cons r a r.1).2 (.inl (by omega)))) (mem_nil _)
    | cons s b =>
      have hr := (okR_iff r).1 ha.head.1
      have hs := (okR_iff s).1 hb.head.1
      have e1 : r.1 = s.1 := by
        have h1 := (mem_cons s b r.1).1 ((h r.1).1 ((mem_cons r a r.1).2 (.inl (by omega))))
        have h2 := (mem_cons r a s.1).1 ((h s.1).2 ((mem_cons s b s.1).2 (.inl (by omega))))
        rcases h1 with h1 | h1
        · rcases h2 with h2 | h2
          · omega
          · have := ha.le_head h2; omega
        · have := hb.le_head h1
          rcases h2 with h2 | h2
          · omega
          · have := ha.le_head h2; omega
      have e2 : r.2 = s.2 := by
        rcases Int.lt_trichotomy r.2 s.2 with hlt | heq | hgt
        · have h1 := (mem_cons r a (r.2 + 1)).1 ((h (r.2 + 1)).2 ((mem_cons s b (r.2 + 1)).2 (.inl (by omega))))
          rcases h1 with h1 | h1
          · omega
          · have := ha.le_head h1; omega
        · exact heq
        · have h1 := (mem_cons s b (s.2 + 1)).1 ((h (s.2 + 1)).1 ((mem_cons r a (s.2 + 1)).2 (.inl (by omega))))
          rcases h1 with h1 | h1
          · omega
          · have := hb.le_head h1; omega
      have ers : r = s := by cases r; cases s; simp at e1 e2; simp [e1, e2]
      subst ers
      rw [ih ha.tail hb.tail fun p => ?_]
      constructor
      · intro hp
        have hge := ha.le_head hp
        rcases (mem_cons r b p).1 ((h p).1 ((mem_cons r a p).2 (.inr hp))) with k | k
        · omega
        · exact k
      · intro hp
        have hge := hb.le_head hp
        rcases (mem_cons r a p).1 ((h p).2 ((mem_cons r b p).2 (.inr hp))) with k | k
        · omega
        · exact k

/-- 'The list is the set of the points for which f holds.' -/
def IsSet (a : List (Int × Int)) (f : Int → Prop) : Prop := Can a ∧ ∀ p, mem a p ↔ f p
theorem IsSet.eq {a b : List (Int × Int)} {f g : Int → Prop} (h : IsSet a f) (k : IsSet b g) (hfg : ∀ p, f p ↔ g p) : a = b :=
  Can.ext h.1 k.1 fun p => (h.2 p).trans ((hfg p).trans (k.2 p).symm)
theorem Can.mem_range {a : List (Int × Int)} (h : Can a) {p : Int} (hp : mem a p) : 0 ≤ p ∧ p ≤ 1114111 := by
  obtain ⟨r, hr, h1, h2⟩ := hp
  have := (okR_iff r).1 (h.1 r hr)
  omega

/-! ### what is wrong with a set -/
def gapB : List (Int × Int) → Bool
  | r :: s :: l => decide (r.2 + 2 ≤ s.1) && gapB (s :: l)
  | _ => true
theorem gapB_iff : ∀ (a : List (Int × Int)), gapB a = true ↔ ∀ i, (h : i + 1 < a.length) → (a[i]).2 + 2 ≤ (a[i + 1]).1
  | [] => by simp [gapB]
  | [r] => by simp [gapB]
  | r :: s :: l => by
    simp only [gapB, Bool.and_eq_true, decide_eq_true_eq, gapB_iff (s :: l)]
    constructor
    · rintro ⟨h1, h2⟩ i hi
      cases i with
      | zero => exact h1
      | succ i => exact h2 i (by simpa using hi)
    · intro h
      exact ⟨h 0 (by simp), fun i hi => h (i + 1) (by simpa using hi)⟩
def rangesE (a : List (Int × Int)) : Int := if 400 < a.length then 2 else if a.all okR = false then 3 else 0
def chk (a : List (Int × Int)) : Int := if 400 < a.length then 2 else if a.all okR = false then 3 else if gapB a = false then 4 else 0
theorem gap_pairwise : ∀ (a : List (Int × Int)), (∀ r ∈ a, okR r = true) → gapB a = true → a.Pairwise fun r s => r.2 + 2 ≤ s.1
  | [], _, _ => .nil
  | [r], _, _ => List.pairwise_singleton _ _
  | r :: s :: l, hok, hg => by
    simp only [gapB, Bool.and_eq_true, decide_eq_true_eq] at hg
    have ih := gap_pairwise (s :: l) (fun t ht => hok t (.tail _ ht)) hg.2
    refine List.pairwise_cons.2 ⟨fun t ht => ?_, ih⟩
    rcases List.mem_cons.1 ht with rfl | ht
    · exact hg.1
    · have h1 := (List.pairwise_cons.1 ih).1 t ht
      have h2 := (okR_iff s).1 (hok s (by simp))
      omega
theorem pairwise_gap : ∀ (a : List (Int × Int)), a.Pairwise (fun r s => r.2 + 2 ≤ s.1) → gapB a = true
  | [], _ => rfl
  | [r], _ => rfl
  | r :: s :: l, h => by
    have h1 := List.pairwise_cons.1 h
    simp only [gapB, Bool.and_eq_true, decide_eq_true_eq]
    exact ⟨h1.1 s (by simp), pairwise_gap (s :: l) h1.2⟩
theorem chk_ok (a : List (Int × Int)) : chk a = 0 ↔ a.length ≤ 400 ∧ Can a := by
  unfold chk Can
  split
  · constructor
    · intro h; omega
    · rintro ⟨h, _⟩; omega
  · split
    · rename_i h1 h2
      constructor
      · intro h; omega
      · rintro ⟨_, h3, _⟩
        rw [List.all_eq_true.2 h3] at h2; cases h2
    · rename_i h1 h2
      have h2' : a.all okR = true := by simpa using h2
      have hok := List.all_eq_true.1 h2'
      split
      · rename_i h3
        constructor
        · intro h; omega
        · rintro ⟨_, _, h4⟩
          rw [pairwise_gap a h4] at h3; cases h3
      · rename_i h3
        exact ⟨fun _ => ⟨by omega, hok, gap_pairwise a hok (by simpa using h3)⟩, fun _ => rfl⟩
theorem rangesE_ok (a : List (Int × Int)) : rangesE a = 0 ↔ a.length ≤ 400 ∧ ∀ r ∈ a, okR r = true := by
  unfold rangesE
  split
  · constructor
    · intro h; omega
    · rintro ⟨h, _⟩; omega
  · split
    · rename_i h1 h2
      constructor
      · intro h; omega
      · rintro ⟨_, h3⟩
        rw [List.all_eq_true.2 h3] at h2; cases h2
    · rename_i h1 h2
      exact ⟨fun _ => ⟨by omega, List.all_eq_true.1 (by simpa using h2)⟩, fun _ => rfl⟩

/-! ### Raw: of ranges whose beginnings rise -/
/-- One range more: it joins the last one, or stands behind it. -/
def rawStep (out : List (Int × Int)) (r : Int × Int) : List (Int × Int) :=
  match out.getLast? with
  | some s => if r.1 ≤ s.2 + 1 then out.dropLast ++ [(s.1, max s.2 r.2)] else out ++ [r]
  | none => [r]
theorem snoc_cases (l : List (Int × Int)) : l = [] ∨ ∃ i x, l = i ++ [x] := by
  rcases List.eq_nil_or_concat l with h | ⟨i, x, h⟩
  · exact .inl h
  · exact .inr ⟨i, x, by rw [h, List.concat_eq_append]⟩
/-- What holds after some ranges: the set of their points; each beginning so far is no more than the next. -/
theorem rawStep_set {out l : List (Int × Int)} {r : Int × Int} (h : IsSet out (mem l)) (hr : okR r = true) (hle : ∀ s ∈ out, s.1 ≤ r.1) : IsSet (rawStep out r) (mem (l ++ [r])) ∧ ∀ s ∈ rawStep out r, s.1 ≤ r.1 := by
  have hr' := (okR_iff r).1 hr
  have hm : ∀ p, mem (l ++ [r]) p ↔ mem out p ∨ (r.1 ≤ p ∧ p ≤ r.2) := fun p => by
    rw [mem_append, h.2 p, mem_cons]
    have := mem_nil p
    constructor
    · rintro (k | k | k)
      · exact .inl k
      · exact .inr k
      · exact absurd k this
    · rintro (k | k)
      · exact .inl k
      · exact .inr (.inl k)
  rcases snoc_cases out with rfl | ⟨i, s, rfl⟩
  · simp only [rawStep, List.getLast?_nil]
    refine ⟨⟨Can.nil.snoc hr (by simp), fun p => ?_⟩, by simp⟩
    rw [hm, mem_cons]
    have := mem_nil p
    simp only [this, or_false, false_or]
  · have hc := h.1.init
    have hs := (okR_iff s).1 hc.2.1
    have hsr := hle s (by simp)
    simp only [rawStep, List.getLast?_append, List.getLast?_singleton, Option.some_or, List.dropLast_concat]
    by_cases hj : r.1 ≤ s.2 + 1
    · simp only [hj, if_true]
      have hmax : okR (s.1, max s.2 r.2) = true := by rw [okR_iff]; simp; omega
      refine ⟨⟨hc.1.snoc hmax hc.2.2, fun p => ?_⟩, ?_⟩
      · rw [hm, mem_append, mem_append, mem_cons, mem_cons]
        have := mem_nil p
        simp only [this, or_false]
        constructor
        · rintro (k | k)
          · exact .inl (.inl k)
          · by_cases hp : p ≤ s.2
            · exact .inl (.inr ⟨k.1, hp⟩)
            · exact .inr ⟨by omega, by have := k.2; omega⟩
        · rintro ((k | k) | k)
          · exact .inl k
          · exact .inr ⟨k.1, by omega⟩
          · exact .inr ⟨by omega, by omega⟩
      · intro t ht
        rcases List.mem_append.1 ht with ht | ht
        · exact hle t (List.mem_append_left _ ht)
        · rw [List.mem_singleton.1 ht]; exact hsr
    · simp only [hj, if_false]
      refine ⟨⟨h.1.snoc hr fun t ht => ?_, fun p => ?_⟩, ?_⟩
      · rcases List.mem_append.1 ht with ht | ht
        · have := hc.2.2 t ht; omega
        · rw [List.mem_singleton.1 ht]; omega
      · rw [hm, mem_append, mem_cons]
        have := mem_nil p
        simp only [this, or_false]
      · intro t ht
        rcases List.mem_append.1 ht with ht | ht
        · exact hle t ht
        · rw [List.mem_singleton.1 ht]; omega
end Go.Proofs.YtpdcbddofekbcaaGreat
