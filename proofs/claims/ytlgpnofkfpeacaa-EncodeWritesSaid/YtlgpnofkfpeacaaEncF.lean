/-
  The reference: what is a scalar, walked; the plain law that Encode and TextOf answer the same.
-/
import Derived.Test.YtlgpnofkfpeacaaEncE
namespace Go.Proofs.Ytlgpnofkfpeacaa
open Go.RowKit
set_option linter.unusedVariables false
set_option maxHeartbeats 400000 in
theorem isEnc_any (p : Int) (w : World)  : Calls Try.prog 20 #[.int .i64 p] w fun e w' => e = .returned (.bool (encB p)) ∧ w = w' := by
  have hs : encB p = (decide (1 ≤ p) && decide (p ≤ 4)) := rfl
  rw [hs]
  clear hs
  go_enter Try.func20, Try.ntmps20
  go_wp2
  all_goals (go_ret; refine ⟨ret_bool ?_, rfl⟩; simp_all; try omega)
set_option maxHeartbeats 400000 in
theorem isPoint_any (p : Int) (w : World)  : Calls Try.prog 32 #[.int .i64 p] w fun e w' => e = .returned (.bool (decide (0 ≤ p) && decide (p ≤ 1114111))) ∧ w = w' := by
  go_enter Try.func32, Try.ntmps32
  go_wp2
  all_goals (go_ret; refine ⟨ret_bool ?_, rfl⟩; simp_all; try omega)
set_option maxHeartbeats 400000 in
theorem isScalar_any (enc p : Int) (w : World) : Calls Try.prog 27 #[.int .i64 enc, .int .i64 p] w fun e w' => e = .returned (.bool (scalarB enc p)) ∧ w = w' := by
  by_cases h : enc = 4
  · subst h
    have hs : scalarB 4 p = (decide (0 ≤ p) && decide (p < 256)) := by simp [scalarB]
    rw [hs]
    clear hs
    go_enter Try.func27, Try.ntmps27
    go_wp2
    all_goals (go_ret; refine ⟨ret_bool ?_, rfl⟩; simp_all; try omega)
  · have hs : scalarB enc p = (decide (0 ≤ p) && decide (p ≤ 1114111) && (decide (p < 55296) || decide (57343 < p))) := by simp [scalarB, h]
    rw [hs]
    have h' : (enc == 4) = false := by simpa using h
    clear hs h
    go_enter Try.func27, Try.ntmps27
    go_wp2
    all_goals (go_ret; refine ⟨ret_bool ?_, rfl⟩; simp_all; try omega)
def flat (enc : Int) (l : List Int) : List Int := l.flatMap (bytesOf enc)
theorem flat_snoc (enc : Int) (l : List Int) (p : Int) : flat enc (l ++ [p]) = flat enc l ++ bytesOf enc p := by simp [flat]
theorem flat_take (enc : Int) (l : List Int) (k : Nat) : (flat enc (l.take k)).length ≤ (flat enc l).length := by
  have : flat enc l = flat enc (l.take k) ++ flat enc (l.drop k) := by
    unfold flat; rw [← List.flatMap_append, List.take_append_drop]
  rw [this, List.length_append]; omega
theorem outOf_flat (enc : Int) (l : List Int) : (if 4000 < (flat enc l).length then 4000 < (outOf enc l).length else outOf enc l = flat enc l) := by
  suffices h : ∀ (n : Nat) (l : List Int), l.length = n → (if 4000 < (flat enc l).length then 4000 < (outOf enc l).length else outOf enc l = flat enc l) from h _ l rfl
  intro n
  induction n with
  | zero => intro l hl; obtain rfl := List.eq_nil_of_length_eq_zero hl; simp [flat, outOf]
  | succ n ih =>
    intro l hl
    obtain ⟨l', p, rfl⟩ : ∃ l' p, l = l' ++ [p] := ⟨l.dropLast, l.getLast (by intro h; simp [h] at hl), (List.dropLast_concat_getLast _).symm⟩
    have := ih l' (by simpa using hl)
    rw [flat_snoc, outOf_snoc, List.length_append]
    by_cases h1 : 4000 < (flat enc l').length
    · rw [if_pos h1] at this
      rw [if_pos (by omega)]
      unfold outStep
      rw [if_neg (by omega)]
      exact this
    · rw [if_neg h1] at this
      rw [this]
      have ho : outStep enc (flat enc l') p = flat enc l' ++ bytesOf enc p := by unfold outStep; rw [if_pos (by omega)]
      rw [ho]
      by_cases h2 : 4000 < (flat enc l').length + (bytesOf enc p).length
      · rw [if_pos h2, List.length_append]; omega
      · rw [if_neg h2]
def textE (enc : Int) (l : List Int) : ByteArray × Int :=
  if encB enc = false then (⟨#[]⟩, 7) else if l.all (scalarB enc) = false then (⟨#[]⟩, 3) else if 4000 < (flat enc l).length then (⟨#[]⟩, 2) else (strOf (flat enc l), 0)
theorem encE_textE (enc : Int) (l : List Int) : encE enc l = textE enc l := by
  unfold encE textE
  have := outOf_flat enc l
  by_cases h : 4000 < (flat enc l).length
  · rw [if_pos h] at this
    rw [if_pos h, if_pos this]
  · rw [if_neg h] at this
    rw [if_neg h, this, if_neg h]
theorem unitB_range {enc u : Int} (h0 : 0 ≤ u) (h1 : u ≤ 65535) : ∀ b ∈ unitB enc u, 0 ≤ b ∧ b ≤ 255 := by
  intro b hb
  unfold unitB at hb
  split at hb <;> simp at hb <;> omega
theorem bytesOf_range {enc p : Int} (h : scalarB enc p = true) : ∀ b ∈ bytesOf enc p, 0 ≤ b ∧ b ≤ 255 := by
  obtain ⟨h0, h1, h4, _⟩ := scalar_bounds h
  intro b hb
  unfold bytesOf at hb
  split at hb
  · have := h4 (by assumption); simp at hb; omega
  · split at hb
    · split at hb
      · simp at hb; omega
      · split at hb
        · simp at hb; omega
        · split at hb <;> simp at hb <;> omega
    · split at hb
      · exact unitB_range h0 (by omega) b hb
      · rcases List.mem_append.1 hb with hb | hb
        · exact unitB_range (by omega) (by omega) b hb
        · exact unitB_range (by omega) (by omega) b hb
theorem textE_no (enc : Int) (l : List Int) (h : encB enc = false) : textE enc l = (⟨#[]⟩, 7) := by simp [textE, h]
theorem textE_range (enc : Int) (l : List Int) (h : encB enc = true) (k : Nat) (hk : k < l.length) (hs : scalarB enc l[k] = false) : textE enc l = (⟨#[]⟩, 3) := by
  have : l.all (scalarB enc) = false := by
    rw [List.all_eq_false]
    exact ⟨l[k], List.getElem_mem hk, by simp [hs]⟩
  simp [textE, h, this]
theorem textE_many (enc : Int) (l : List Int) (h : encB enc = true) (ha : l.all (scalarB enc) = true) (k : Nat) (hm : 4000 < (flat enc (l.take k)).length) : textE enc l = (⟨#[]⟩, 2) := by
  have := flat_take enc l k
  simp [textE, h, ha]; omega
theorem textE_ok (enc : Int) (l : List Int) (h : encB enc = true) (ha : l.all (scalarB enc) = true) (hm : (flat enc l).length ≤ 4000) : textE enc l = (strOf (flat enc l), 0) := by
  simp [textE, h, ha]; omega
theorem own_kept {w w' : World} {base' m size' : Nat} {e' : TypeId} {v B : Value} {ys : List Value} (hB : w.ownsRow base' e' size' B m ys) (hg : w.grownBy w' v.ownBlock) (hne : ∀ g, v.ownBlock = some g → B.ownBlock ≠ some g) : w'.ownsRow base' e' size' B m ys := by
  refine hB.kept hg ?_
  cases hb : B.ownBlock with
  | none => exact .inl rfl
  | some g => exact .inr (fun h => hne g h.symm hb)
end Go.Proofs.Ytlgpnofkfpeacaa
