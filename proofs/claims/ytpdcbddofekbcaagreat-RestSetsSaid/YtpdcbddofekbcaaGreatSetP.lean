/-
  The plain law of the reference's SetOf: sorted ends, and segments between them that are joined where they touch.
-/
import Derived.Test.YtpdcbddofekbcaaGreatSetA
namespace Go.Proofs.YtpdcbddofekbcaaGreat
set_option linter.unusedVariables false

/-- the ends so far: they rise, are points, the first one is 0. -/
structure Ends (L es : List Int) : Prop where
  sorted : L.Pairwise (· < ·)
  range : ∀ p ∈ L, 0 ≤ p ∧ p ≤ 1114111
  zero : ∃ l, L = 0 :: l
  all : ∀ p ∈ es, 0 ≤ p → p ≤ 1114111 → p ∈ L
  len : L.length ≤ es.length + 1
theorem Ends.start : Ends [0] [] := ⟨by simp, by simp, ⟨[], rfl⟩, by simp, by simp⟩
theorem Ends.skip {L es : List Int} {x : Int} (h : Ends L es) (hx : (0 ≤ x → x ≤ 1114111 → x ∈ L)) : Ends L (es ++ [x]) :=
  ⟨h.sorted, h.range, h.zero, fun p hp h0 h1 => by
    rcases List.mem_append.1 hp with hp | hp
    · exact h.all p hp h0 h1
    · rw [List.mem_singleton.1 hp] at h0 h1 ⊢; exact hx h0 h1, by have := h.len; simp; omega⟩
theorem Ends.put {L es : List Int} {x : Int} (h : Ends L es) (h0 : 0 ≤ x) (h1 : x ≤ 1114111) (at_ : Nat) (hat : at_ ≤ L.length) (hlo : ∀ j, (hj : j < L.length) → j < at_ → L[j] < x) (hhi : ∀ (hj : at_ < L.length), x < L[at_]) :
    1 ≤ at_ ∧ Ends (L.take at_ ++ ([x] ++ L.drop at_)) (es ++ [x]) := by
  obtain ⟨l, hl⟩ := h.zero
  have h1at : 1 ≤ at_ := by
    rcases Nat.eq_zero_or_pos at_ with h | h
    · subst h
      have := hhi (by rw [hl]; simp)
      simp [hl] at this
      omega
    · exact h
  have hs := List.pairwise_iff_getElem.1 h.sorted
  have hdrop : ∀ p ∈ L.drop at_, x < p := by
    intro p hp
    obtain ⟨i, hi, rfl⟩ := List.mem_iff_getElem.1 hp
    rw [List.getElem_drop]
    have hlt : at_ < L.length := by simp at hi; omega
    have := hhi hlt
    rcases Nat.eq_zero_or_pos i with hz | hz
    · subst hz; simpa using this
    · have := hs at_ (at_ + i) hlt (by simp at hi; omega) (by omega); omega
  have htake : ∀ p ∈ L.take at_, p < x := by
    intro p hp
    obtain ⟨i, hi, rfl⟩ := List.mem_iff_getElem.1 hp
    rw [List.getElem_take]
    simp at hi
    exact hlo i (by omega) (by omega)
  refine ⟨h1at, ⟨?_, ?_, ?_, ?_, ?_⟩⟩
  · rw [List.pairwise_append]
    refine ⟨h.sorted.sublist (List.take_sublist _ _), ?_, ?_⟩
    · rw [List.singleton_append, List.pairwise_cons]
      exact ⟨hdrop, h.sorted.sublist (List.drop_sublist _ _)⟩
    · intro p hp q hq
      have hp' := htake p hp
      rcases List.mem_append.1 hq with hq | hq
      · rw [List.mem_singleton.1 hq]; exact hp'
      · have := hdrop q hq; omega
  · intro p hp
    rcases List.mem_append.1 hp with hp | hp
    · exact h.range p (List.mem_of_mem_take hp)
    · rcases List.mem_append.1 hp with hp | hp
      · rw [List.mem_singleton.1 hp]; exact ⟨h0, h1⟩
      · exact h.range p (List.mem_of_mem_drop hp)
  · refine ⟨l.take (at_ - 1) ++ ([x] ++ L.drop at_), ?_⟩
    rw [hl]
    obtain ⟨a, rfl⟩ : ∃ a, at_ = a + 1 := ⟨at_ - 1, by omega⟩
    simp
  · intro p hp h0 h1
    have hm : p ∈ L → p ∈ L.take at_ ++ ([x] ++ L.drop at_) := fun hp => by
      rw [← List.take_append_drop at_ L] at hp
      rcases List.mem_append.1 hp with hp | hp
      · exact List.mem_append_left _ hp
      · exact List.mem_append_right _ (List.mem_append_right _ hp)
    rcases List.mem_append.1 hp with hp | hp
    · exact hm (h.all p hp h0 h1)
    · rw [List.mem_singleton.1 hp]; simp
  · have := h.len
    simp
    omega

/-- where the segment at place i ends: just ahead of the next end. -/
def upTo (L : List Int) (i : Nat) : Int := if h : i < L.length then L[i] else 1114112
theorem upTo_lt {L : List Int} {i : Nat} (h : i < L.length) : upTo L i = L[i] := by simp [upTo, h]
theorem upTo_end (L : List Int) : upTo L L.length = 1114112 := by simp [upTo]
theorem Ends.next {L es : List Int} (h : Ends L es) (i : Nat) (hi : i < L.length) : L[i] + 1 ≤ upTo L (i + 1) ∧ upTo L (i + 1) ≤ 1114112 := by
  by_cases h1 : i + 1 < L.length
  · rw [upTo_lt h1]
    have := List.pairwise_iff_getElem.1 h.sorted i (i + 1) hi h1 (by omega)
    have := h.range _ (List.getElem_mem h1)
    omega
  · have e : i + 1 = L.length := by omega
    rw [e, upTo_end]
    have := h.range _ (List.getElem_mem hi)
    omega
/-- between two ends f does not change. -/
theorem Ends.const {L es : List Int} (h : Ends L es) {f : Int → Bool} (hf : ∀ p, 0 < p → p ≤ 1114111 → p ∉ es → f p = f (p - 1)) (i : Nat) (hi : i < L.length) :
    ∀ (n : Nat), L[i] + n < upTo L (i + 1) → f (L[i] + n) = f L[i] := by
  intro n
  induction n with
  | zero => intro _; simp
  | succ n ih =>
    intro hn
    have hr := h.range _ (List.getElem_mem hi)
    have hu := (h.next i hi).2
    have hno : L[i] + ((n + 1 : Nat) : Int) ∉ es := by
      intro hm
      have := h.all _ hm (by omega) (by omega)
      obtain ⟨j, hj, he⟩ := List.mem_iff_getElem.1 this
      have hp := List.pairwise_iff_getElem.1 h.sorted
      rcases Nat.lt_trichotomy j i with k | k | k
      · have := hp j i hj hi k; omega
      · subst k; omega
      · rcases Nat.lt_or_ge (i + 1) j with k2 | k2
        · have h1 : i + 1 < L.length := by omega
          rw [upTo_lt h1] at hn
          have := hp (i + 1) j h1 hj k2
          omega
        · have : j = i + 1 := by omega
          subst this
          rw [upTo_lt hj] at hn
          omega
    rw [hf _ (by omega) (by omega) hno, show L[i] + ((n + 1 : Nat) : Int) - 1 = L[i] + (n : Int) from by omega]
    exact ih (by omega)
def segStep (out : List (Int × Int)) (x to : Int) : List (Int × Int) :=
  match out.getLast? with
  | some s => if s.2 = x - 1 then out.dropLast ++ [(s.1, to)] else out ++ [(x, to)]
  | none => [(x, to)]
theorem segStep_nil (x to : Int) : segStep [] x to = [(x, to)] := rfl
theorem segStep_snoc (i : List (Int × Int)) (s : Int × Int) (x to : Int) : segStep (i ++ [s]) x to = if s.2 = x - 1 then i ++ [(s.1, to)] else i ++ [s] ++ [(x, to)] := by
  simp [segStep]
theorem segStep_set {out : List (Int × Int)} {f : Int → Bool} {x to : Int} (h : IsSet out fun p => 0 ≤ p ∧ p < x ∧ f p = true) (h0 : 0 ≤ x) (h1 : x ≤ to) (h2 : to ≤ 1114111) (hf : ∀ p, x ≤ p → p ≤ to → f p = true) :
    IsSet (segStep out x to) fun p => 0 ≤ p ∧ p < to + 1 ∧ f p = true := by
  have hm : ∀ p, (0 ≤ p ∧ p < to + 1 ∧ f p = true) ↔ mem out p ∨ (x ≤ p ∧ p ≤ to) := fun p => by
    rw [h.2 p]
    constructor
    · rintro ⟨a, b, c⟩
      by_cases hp : p < x
      · exact .inl ⟨a, hp, c⟩
      · exact .inr ⟨by omega, by omega⟩
    · rintro (⟨a, b, c⟩ | ⟨a, b⟩)
      · exact ⟨a, by omega, c⟩
      · exact ⟨by omega, by omega, hf p a b⟩
  have hnew : okR (x, to) = true := by rw [okR_iff]; simp; omega
  rcases snoc_cases out with rfl | ⟨i, s, rfl⟩
  · rw [segStep_nil]
    refine ⟨Can.nil.snoc hnew (by simp), fun p => ?_⟩
    refine Iff.trans ?_ (hm p).symm
    rw [mem_cons]
    have := mem_nil p
    simp only [this, or_false, false_or]
  · have hc := h.1.init
    have hs := (okR_iff s).1 hc.2.1
    have hlast : s.2 < x := ((h.2 s.2).1 ((mem_append i [s] s.2).2 (.inr ((mem_cons s [] s.2).2 (.inl (by omega)))))).2.1
    rw [segStep_snoc]
    split
    · rename_i he
      have hj : okR (s.1, to) = true := by rw [okR_iff]; simp; omega
      refine ⟨hc.1.snoc hj hc.2.2, fun p => ?_⟩
      refine Iff.trans ?_ (hm p).symm
      rw [mem_append, mem_append, mem_cons, mem_cons]
      have := mem_nil p
      simp only [this, or_false]
      constructor
      · rintro (k | k)
        · exact .inl (.inl k)
        · by_cases hp : p ≤ s.2
          · exact .inl (.inr ⟨k.1, hp⟩)
          · exact .inr ⟨by omega, k.2⟩
      · rintro ((k | k) | k)
        · exact .inl k
        · exact .inr ⟨k.1, by omega⟩
        · exact .inr ⟨by omega, k.2⟩
    · rename_i he
      refine ⟨h.1.snoc hnew fun t ht => ?_, fun p => ?_⟩
      · rcases List.mem_append.1 ht with ht | ht
        · have := hc.2.2 t ht; simp; omega
        · rw [List.mem_singleton.1 ht]; simp; omega
      · refine Iff.trans ?_ (hm p).symm
        rw [mem_append, mem_cons]
        have := mem_nil p
        simp only [this, or_false]
/-- one segment on, when f does not hold of it. -/
theorem seg_skip {out : List (Int × Int)} {f : Int → Bool} {x y : Int} (h : IsSet out fun p => 0 ≤ p ∧ p < x ∧ f p = true) (hxy : x ≤ y) (hf : ∀ p, x ≤ p → p < y → f p = false) : IsSet out fun p => 0 ≤ p ∧ p < y ∧ f p = true :=
  ⟨h.1, fun p => by
    rw [h.2 p]
    constructor
    · rintro ⟨a, b, c⟩; exact ⟨a, by omega, c⟩
    · rintro ⟨a, b, c⟩
      refine ⟨a, ?_, c⟩
      rcases Int.lt_or_le p x with k | k
      · exact k
      · rw [hf p k b] at c; cases c⟩
end Go.Proofs.YtpdcbddofekbcaaGreat
