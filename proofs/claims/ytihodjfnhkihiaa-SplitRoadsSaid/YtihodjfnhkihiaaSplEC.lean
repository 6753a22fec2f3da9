/- Bytes of texts as numbers, roads that let them through, the bytes of a point: plain. No condition. -/
import Derived.Test.YtihodjfnhkihiaaSplA
import Derived.Test.YtihodjfnhkihiaaSplEA
namespace Go.Proofs.Ytihodjfnhkihiaa
open Go.RowKit
set_option linter.unusedVariables false
set_option linter.unusedSimpArgs false
def bytL (s : ByteArray) : List Int := s.data.toList.map fun b => (b.toNat : Int)
theorem bytL_len (s : ByteArray) : (bytL s).length = s.size := by unfold bytL; rw [List.length_map, Array.length_toList]; rfl
theorem bytL_at (s : ByteArray) (k : Nat) (h : k < s.size) : (bytL s)[k]'(by rw [bytL_len]; exact h) = byt s k := by
  unfold byt bytL
  rw [dif_pos h]
  simp [ByteArray.getElem_eq_getElem_data]
/-- the byte that stands there, or -1 -/
def bA (s : ByteArray) (k : Nat) : Int := if k < s.size then byt s k else -1
theorem bA_rng (s : ByteArray) (k : Nat) : -1 ≤ bA s k ∧ bA s k ≤ 255 := by
  have := byt_rng s k
  unfold bA; split <;> omega
theorem bA_at (s : ByteArray) (k : Nat) : bA s k = bAt (bytL s) k := by
  unfold bA bAt
  by_cases h : k < s.size
  · rw [if_pos h, ← bytL_at s k h]
    rw [List.getD_eq_getElem?_getD, List.getElem?_eq_getElem (by rw [bytL_len]; exact h)]; rfl
  · rw [if_neg h, List.getD_eq_getElem?_getD, List.getElem?_eq_none (by rw [bytL_len]; omega)]; rfl
theorem hit_get : ∀ (r : List (Int × Int)) (ds : List Int), hitR r ds = true ↔ r.length = ds.length ∧ ∀ i (h : i < r.length) (h' : i < ds.length), r[i].1 ≤ ds[i] ∧ ds[i] ≤ r[i].2
  | [], [] => by simp [hitR]
  | [], _ :: _ => by simp [hitR]
  | _ :: _, [] => by simp [hitR]
  | x :: r, d :: ds => by
    have ih := hit_get r ds
    simp only [hitR, Bool.and_eq_true, decide_eq_true_eq, ih, List.length_cons]
    constructor
    · rintro ⟨⟨h1, h2⟩, h3, h4⟩
      refine ⟨by omega, fun i hi hi' => ?_⟩
      cases i with
      | zero => exact ⟨h1, h2⟩
      | succ i => exact h4 i (by simpa using hi) (by simpa using hi')
    · rintro ⟨h3, h4⟩
      refine ⟨⟨(h4 0 (by simp) (by simp)).1, (h4 0 (by simp) (by simp)).2⟩, by omega, fun i hi hi' => ?_⟩
      exact h4 (i + 1) (by simpa using hi) (by simpa using hi')
theorem goesB_hit (r : List (Int × Int)) (s : ByteArray) : goesB r s ↔ hitR r (bytL s) = true := by
  rw [hit_get]
  unfold goesB along
  simp only [bytL_len]
  constructor
  · rintro ⟨h1, h2⟩
    refine ⟨h1, fun i hi hi' => ?_⟩
    have := h2 i hi (by omega)
    rw [bytL_at s i (by omega)]
    simpa [inR] using this
  · rintro ⟨h1, h2⟩
    refine ⟨h1, fun i hi _ => ?_⟩
    have := h2 i hi (by omega)
    rw [bytL_at s i (by omega)] at this
    simpa [inR] using this
theorem goesN_cnt (ls : List (List (Int × Int))) (s : ByteArray) : goesN ls s = cntR ls (bytL s) := by
  unfold goesN cntR
  congr 1
  apply List.filter_congr
  intro r _
  rw [Bool.eq_iff_iff, decide_eq_true_eq]
  exact goesB_hit r s
theorem scalarB_eq (enc p : Int) : scalarB enc p = scalB enc p := by
  unfold scalarB scalB
  split
  · rw [Bool.eq_iff_iff]; simp; omega
  · rfl
theorem pair16_unit (enc u : Int) (he : enc ≠ 2) : unitB enc u = pair16 u := by simp [unitB, he, pair16, encB]
theorem bytesOf_code {enc c : Int} (h : ScalE enc c) : bytesOf enc c = codeE enc c := by
  unfold ScalE at h
  unfold bytesOf codeE
  by_cases h4 : enc = 4
  · subst h4; simp
  · rw [if_neg h4] at h ⊢
    by_cases h1 : enc = 1
    · rw [if_pos h1, if_pos h1]
      unfold code8
      split
      · simp [encB]
      · split
        · simp only [encB, show (64 : Int) ^ (0 + 1) = 64 from rfl]
        · split
          · simp only [encB, show (64 : Int) ^ (0 + 1) = 64 from rfl, show (64 : Int) ^ (1 + 1) = 4096 from rfl]
            congr 1
            congr 1
            · omega
            · congr 1; omega
          · simp only [encB, show (64 : Int) ^ (0 + 1) = 64 from rfl, show (64 : Int) ^ (1 + 1) = 4096 from rfl, show (64 : Int) ^ (2 + 1) = 262144 from rfl]
            congr 1
            congr 1
            · omega
            · congr 1
              · omega
              · congr 1; omega
    · rw [if_neg h1, if_neg h1, if_neg h4]
      unfold code16
      by_cases h2 : enc = 2
      · subst h2
        rw [if_pos rfl]
        split
        · simp [unitB, pair16, encB, turnL]
        · simp [unitB, pair16, encB, turnL]
      · rw [if_neg h2]
        split
        · exact pair16_unit enc _ h2
        · rw [pair16_unit enc _ h2, pair16_unit enc _ h2]
theorem codeE_pos {enc c : Int} (he : 1 ≤ enc ∧ enc ≤ 4) : codeE enc c ≠ [] := by
  unfold codeE code8 code16
  repeat' split
  all_goals simp [encB, pair16, turnL]
end Go.Proofs.Ytihodjfnhkihiaa
