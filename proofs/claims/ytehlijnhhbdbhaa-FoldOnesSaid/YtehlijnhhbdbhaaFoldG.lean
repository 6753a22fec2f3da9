/- What the reference calls beside, plain: one way of the program's pairs. -/
import Derived.Test.YtehlijnhhbdbhaaFoldE
namespace Go.Proofs.Ytehlijnhhbdbhaa
set_option linter.unusedVariables false
def c1 (p : Int) : Bool := decide ((65 ≤ p ∧ p ≤ 90) ∨ (192 ≤ p ∧ p ≤ 214) ∨ (216 ≤ p ∧ p ≤ 222) ∨ (913 ≤ p ∧ p ≤ 929) ∨ (931 ≤ p ∧ p ≤ 939) ∨ (1040 ≤ p ∧ p ≤ 1071))
theorem c1_of {p : Int} (h : (65 ≤ p ∧ p ≤ 90) ∨ (192 ≤ p ∧ p ≤ 214) ∨ (216 ≤ p ∧ p ≤ 222) ∨ (913 ≤ p ∧ p ≤ 929) ∨ (931 ≤ p ∧ p ≤ 939) ∨ (1040 ≤ p ∧ p ≤ 1071)) : c1 p = true := decide_eq_true h
theorem c1_no {p : Int} (h : ¬ ((65 ≤ p ∧ p ≤ 90) ∨ (192 ≤ p ∧ p ≤ 214) ∨ (216 ≤ p ∧ p ≤ 222) ∨ (913 ≤ p ∧ p ≤ 929) ∨ (931 ≤ p ∧ p ≤ 939) ∨ (1040 ≤ p ∧ p ≤ 1071))) : ¬ c1 p = true := by rw [show c1 p = false from decide_eq_false h]; simp
def fwd (p : Int) : List Int := if c1 p then [p + 32] else if (256 ≤ p ∧ p ≤ 302 ∧ p % 2 = 0) ∨ p = 962 then [p + 1] else if 1024 ≤ p ∧ p ≤ 1039 then [p + 80] else if p = 181 then [956] else if p = 8490 then [107] else if p = 8491 then [229] else if p = 7838 then [223] else []
def near (x : Int) : List Int := [x - 32, x - 1, x - 80, 181, 8490, 8491, 7838]
theorem hit_iff (r : Pr) (p : Int) : hit r p = true ↔ r.f ≤ p ∧ p ≤ r.t ∧ (p - r.f) % r.s = 0 := by simp [hit, and_assoc]
theorem mem_bes1 (r : Pr) (p q : Int) : q ∈ bes1 r p ↔ (hit r p = true ∧ q = p + r.b) ∨ (hit r (p - r.b) = true ∧ q = p - r.b) := by
  unfold bes1; rw [List.mem_append]
  constructor
  · rintro (h | h)
    · split at h
      · exact .inl ⟨‹_›, by simpa using h⟩
      · simp at h
    · split at h
      · exact .inr ⟨‹_›, by simpa using h⟩
      · simp at h
  · rintro (⟨h, rfl⟩ | ⟨h, rfl⟩)
    · exact .inl (by rw [if_pos h]; simp)
    · exact .inr (by rw [if_pos h]; simp)
theorem mem_besP (p q : Int) : q ∈ besP p ↔ ∃ r ∈ tbl, (hit r p = true ∧ q = p + r.b) ∨ (hit r (p - r.b) = true ∧ q = p - r.b) := by
  unfold besP; rw [List.mem_flatMap]; simp only [mem_bes1]
theorem besP_sym {p q : Int} (h : q ∈ besP p) : p ∈ besP q := by
  obtain ⟨r, hr, h | h⟩ := (mem_besP p q).1 h
  · exact (mem_besP q p).2 ⟨r, hr, .inr ⟨by rw [h.2, show p + r.b - r.b = p by omega]; exact h.1, by omega⟩⟩
  · exact (mem_besP q p).2 ⟨r, hr, .inl ⟨by rw [h.2]; exact h.1, by omega⟩⟩
theorem fwd_bes {p q : Int} (h : q ∈ fwd p) : q ∈ besP p := by
  unfold fwd at h
  split at h
  · rename_i hc
    have hc' := of_decide_eq_true hc
    have e : q = p + 32 := by simpa using h
    rcases hc' with k | k | k | k | k | k
    · exact (mem_besP p q).2 ⟨⟨65, 90, 32, 1⟩, by decide, .inl ⟨(hit_iff _ _).2 ⟨k.1, k.2, Int.emod_one _⟩, e⟩⟩
    · exact (mem_besP p q).2 ⟨⟨192, 214, 32, 1⟩, by decide, .inl ⟨(hit_iff _ _).2 ⟨k.1, k.2, Int.emod_one _⟩, e⟩⟩
    · exact (mem_besP p q).2 ⟨⟨216, 222, 32, 1⟩, by decide, .inl ⟨(hit_iff _ _).2 ⟨k.1, k.2, Int.emod_one _⟩, e⟩⟩
    · exact (mem_besP p q).2 ⟨⟨913, 929, 32, 1⟩, by decide, .inl ⟨(hit_iff _ _).2 ⟨k.1, k.2, Int.emod_one _⟩, e⟩⟩
    · exact (mem_besP p q).2 ⟨⟨931, 939, 32, 1⟩, by decide, .inl ⟨(hit_iff _ _).2 ⟨k.1, k.2, Int.emod_one _⟩, e⟩⟩
    · exact (mem_besP p q).2 ⟨⟨1040, 1071, 32, 1⟩, by decide, .inl ⟨(hit_iff _ _).2 ⟨k.1, k.2, Int.emod_one _⟩, e⟩⟩
  split at h
  · rename_i hc
    have e : q = p + 1 := by simpa using h
    rcases hc with k | k
    · exact (mem_besP p q).2 ⟨⟨256, 302, 1, 2⟩, by decide, .inl ⟨(hit_iff _ _).2 ⟨k.1, k.2.1, show (p - 256) % 2 = 0 by omega⟩, e⟩⟩
    · exact (mem_besP p q).2 ⟨⟨962, 962, 1, 1⟩, by decide, .inl ⟨(hit_iff _ _).2 ⟨by simp; omega, by simp; omega, Int.emod_one _⟩, e⟩⟩
  split at h
  · rename_i k
    have e : q = p + 80 := by simpa using h
    exact (mem_besP p q).2 ⟨⟨1024, 1039, 80, 1⟩, by decide, .inl ⟨(hit_iff _ _).2 ⟨k.1, k.2, Int.emod_one _⟩, e⟩⟩
  split at h
  · rename_i k; subst k; rw [List.mem_singleton.1 h]; decide
  split at h
  · rename_i k; subst k; rw [List.mem_singleton.1 h]; decide
  split at h
  · rename_i k; subst k; rw [List.mem_singleton.1 h]; decide
  split at h
  · rename_i k; subst k; rw [List.mem_singleton.1 h]; decide
  simp at h
theorem hit_fwd {r : Pr} (hr : r ∈ tbl) {p : Int} (h : hit r p = true) : (p + r.b ∈ fwd p ∧ p ∈ near (p + r.b)) ∨ (p ∈ fwd (p + r.b) ∧ p + r.b ∈ near p) := by
  obtain ⟨h1, h2, h3⟩ := (hit_iff r p).1 h
  simp only [tbl, List.mem_cons, List.not_mem_nil, or_false] at hr
  rcases hr with rfl | rfl | rfl | rfl | rfl | rfl | rfl | rfl | rfl | rfl | rfl | rfl | rfl <;> simp only at h1 h2 h3 ⊢
  · left; unfold fwd; rw [if_pos (c1_of (by omega))]; exact ⟨by simp, by simp only [near, List.mem_cons]; omega⟩
  · left; unfold fwd; rw [if_pos (c1_of (by omega))]; exact ⟨by simp, by simp only [near, List.mem_cons]; omega⟩
  · left; unfold fwd; rw [if_pos (c1_of (by omega))]; exact ⟨by simp, by simp only [near, List.mem_cons]; omega⟩
  · left; unfold fwd; rw [if_neg (c1_no (by omega)), if_pos (by omega)]; exact ⟨by simp, by simp only [near, List.mem_cons]; omega⟩
  · left; unfold fwd; rw [if_pos (c1_of (by omega))]; exact ⟨by simp, by simp only [near, List.mem_cons]; omega⟩
  · left; unfold fwd; rw [if_pos (c1_of (by omega))]; exact ⟨by simp, by simp only [near, List.mem_cons]; omega⟩
  · left; unfold fwd; rw [if_neg (c1_no (by omega)), if_neg (by omega), if_pos (by omega)]; exact ⟨by simp, by simp only [near, List.mem_cons]; omega⟩
  · left; unfold fwd; rw [if_pos (c1_of (by omega))]; exact ⟨by simp, by simp only [near, List.mem_cons]; omega⟩
  · obtain rfl : p = 962 := by omega
    left; decide
  · obtain rfl : p = 181 := by omega
    left; decide
  · obtain rfl : p = 107 := by omega
    right; decide
  · obtain rfl : p = 229 := by omega
    right; decide
  · obtain rfl : p = 223 := by omega
    right; decide
/-- what is beside a point is what the reference says one way, or the other way and near -/
theorem bes_fwd {x q : Int} (h : q ∈ besP x) : q ∈ fwd x ∨ (q ∈ near x ∧ x ∈ fwd q) := by
  obtain ⟨r, hr, ⟨h1, h2⟩ | ⟨h1, h2⟩⟩ := (mem_besP x q).1 h
  · rcases hit_fwd hr h1 with k | k
    · exact .inl (by rw [h2]; exact k.1)
    · exact .inr ⟨by rw [h2]; exact k.2, by rw [h2]; exact k.1⟩
  · have e : q + r.b = x := by omega
    rcases hit_fwd hr h1 with k | k
    · rw [← h2, e] at k; exact .inr ⟨k.2, k.1⟩
    · rw [← h2, e] at k; exact .inl k.1
theorem fwd_len (p : Int) : (fwd p).length ≤ 1 := by
  unfold fwd; split
  · simp
  split
  · simp
  split
  · simp
  split
  · simp
  split
  · simp
  split
  · simp
  split <;> simp
end Go.Proofs.Ytehlijnhhbdbhaa
