/- OrbitOf of the reference: walked. -/
import Derived.Test.YtehlijnhhbdbhaaFoldH
namespace Go.Proofs.Ytehlijnhhbdbhaa
open Go.RowKit
set_option linter.unusedVariables false
def lenOf : Value → Nat
  | .slice _ n _ => n
  | _ => 0
def bitOf : Value → Nat
  | .bool true => 1
  | _ => 0
/-- of the first k of the list whatever the reference calls beside them is in -/
def F2 (out : List Int) (k : Nat) : Prop := ∀ x ∈ out.take k, ∀ q ∈ fwd x, q ∈ out
def F4 (out : List Int) (k : Nat) : Prop := ∀ x ∈ out.take k, ∀ q ∈ near x, x ∈ fwd q → q ∈ out
theorem F2.snoc {out : List Int} {i : Nat} (h : F2 out i) (hi : i ≤ out.length) (q : Int) : F2 (out ++ [q]) i := fun x hx r hr => by
  rw [List.take_append_of_le_length hi] at hx
  exact List.mem_append_left _ (h x hx r hr)
theorem F4.snoc {out : List Int} {i : Nat} (h : F4 out i) (hi : i ≤ out.length) (q : Int) : F4 (out ++ [q]) i := fun x hx r hr hf => by
  rw [List.take_append_of_le_length hi] at hx
  exact List.mem_append_left _ (h x hx r hr hf)
theorem F2.succ {out : List Int} {i : Nat} (h : F2 out i) (hi : i < out.length) (hb : ∀ q ∈ fwd out[i], q ∈ out) : F2 out (i + 1) := fun x hx r hr => by
  rw [take_snoc' out i hi] at hx
  rcases List.mem_append.1 hx with hx | hx
  · exact h x hx r hr
  · rw [List.mem_singleton.1 hx] at hr; exact hb r hr
theorem F4.succ {out : List Int} {i : Nat} (h : F4 out i) (hi : i < out.length) (hb : ∀ q ∈ near out[i], out[i] ∈ fwd q → q ∈ out) : F4 out (i + 1) := fun x hx r hr hf => by
  rw [take_snoc' out i hi] at hx
  rcases List.mem_append.1 hx with hx | hx
  · exact h x hx r hr hf
  · rw [List.mem_singleton.1 hx] at hr hf; exact hb r hr hf
theorem F24.done {out : List Int} (h2 : ∀ x ∈ out, ∀ q ∈ fwd x, q ∈ out) (h4 : F4 out out.length) : ∀ x ∈ out, ∀ q ∈ besP x, q ∈ out := fun x hx q hq => by
  rcases bes_fwd hq with h | ⟨h, k⟩
  · exact h2 x hx q h
  · exact h4 x (by rw [List.take_length]; exact hx) q h k
/-- loop 3: of the first j beside x all are in -/
def In3 (p : Int) (i j : Nat) (x : Int) (out : List Int) : Prop := OrbSt p out ∧ F2 out i ∧ (∃ h : i < out.length, out[i] = x) ∧ ∀ q ∈ (fwd x).take j, q ∈ out
theorem In3.skip {p x q : Int} {i j : Nat} {out : List Int} (h : In3 p i j x out) (hj : j < (fwd x).length) (hq : (fwd x)[j] = q) (hm : hasI out q = true) : In3 p i (j + 1) x out :=
  ⟨h.1, h.2.1, h.2.2.1, fun r hr => by
    rw [take_snoc' _ j hj] at hr
    rcases List.mem_append.1 hr with hr | hr
    · exact h.2.2.2 r hr
    · rw [List.mem_singleton.1 hr, hq]; exact (hasI_iff out q).1 hm⟩
theorem In3.more {p x q : Int} {i j : Nat} {out : List Int} (h0 : 0 ≤ p) (h1 : p ≤ 1114111) (h : In3 p i j x out) (hj : j < (fwd x).length) (hq : (fwd x)[j] = q) (hm : hasI out q = false) : In3 p i (j + 1) x (out ++ [q]) := by
  obtain ⟨hi, hxi⟩ := h.2.2.1
  have hqo : q ∈ orb p := orb_closed h0 h1 (x := x) (h.1.sub x (by rw [← hxi]; exact List.getElem_mem hi)) (fwd_bes (by rw [← hq]; exact List.getElem_mem hj))
  refine ⟨h.1.snoc hqo hm, h.2.1.snoc (by omega) q, ⟨by simp; omega, by rw [List.getElem_append_left hi]; exact hxi⟩, fun r hr => ?_⟩
  rw [take_snoc' _ j hj] at hr
  rcases List.mem_append.1 hr with hr | hr
  · exact List.mem_append_left _ (h.2.2.2 r hr)
  · rw [List.mem_singleton.1 hr, hq]; exact List.mem_append_right _ (by simp)
theorem In3.done {p x : Int} {i j : Nat} {out : List Int} (h : In3 p i j x out) (hj : (fwd x).length ≤ j) : OrbSt p out ∧ F2 out (i + 1) := by
  obtain ⟨hi, hxi⟩ := h.2.2.1
  refine ⟨h.1, h.2.1.succ hi fun q hq => h.2.2.2 q ?_⟩
  rw [List.take_of_length_le hj, ← hxi]; exact hq
/-- loop 5 -/
def In5 (p : Int) (i j : Nat) (x : Int) (out : List Int) : Prop := OrbSt p out ∧ F4 out i ∧ (∃ h : i < out.length, out[i] = x) ∧ ∀ q ∈ (near x).take j, x ∈ fwd q → q ∈ out
theorem In5.skip {p x q : Int} {i j : Nat} {out : List Int} (h : In5 p i j x out) (hj : j < (near x).length) (hq : (near x)[j] = q) (hm : x ∈ fwd q → q ∈ out) : In5 p i (j + 1) x out :=
  ⟨h.1, h.2.1, h.2.2.1, fun r hr hf => by
    rw [take_snoc' _ j hj] at hr
    rcases List.mem_append.1 hr with hr | hr
    · exact h.2.2.2 r hr hf
    · rw [List.mem_singleton.1 hr, hq] at hf ⊢; exact hm hf⟩
theorem In5.more {p x q : Int} {i j : Nat} {out : List Int} (h0 : 0 ≤ p) (h1 : p ≤ 1114111) (h : In5 p i j x out) (hj : j < (near x).length) (hq : (near x)[j] = q) (hx : x ∈ fwd q) (hm : hasI out q = false) : In5 p i (j + 1) x (out ++ [q]) := by
  obtain ⟨hi, hxi⟩ := h.2.2.1
  have hqo : q ∈ orb p := orb_closed h0 h1 (x := x) (h.1.sub x (by rw [← hxi]; exact List.getElem_mem hi)) (besP_sym (fwd_bes hx))
  refine ⟨h.1.snoc hqo hm, h.2.1.snoc (by omega) q, ⟨by simp; omega, by rw [List.getElem_append_left hi]; exact hxi⟩, fun r hr hf => ?_⟩
  rw [take_snoc' _ j hj] at hr
  rcases List.mem_append.1 hr with hr | hr
  · exact List.mem_append_left _ (h.2.2.2 r hr hf)
  · rw [List.mem_singleton.1 hr, hq]; exact List.mem_append_right _ (by simp)
theorem In5.done {p x : Int} {i j : Nat} {out : List Int} (h : In5 p i j x out) (hj : (near x).length ≤ j) : OrbSt p out ∧ F4 out (i + 1) := by
  obtain ⟨hi, hxi⟩ := h.2.2.1
  refine ⟨h.1, h.2.1.succ hi fun q hq hf => h.2.2.2 q ?_ ?_⟩
  · rw [List.take_of_length_le hj, ← hxi]; exact hq
  · rw [← hxi]; exact hf
/-- a number that was not in, taken in, is one more -/
def Grew (ch : Bool) (t0 t : Nat) : Prop := t0 ≤ t ∧ (ch = true → t0 < t)
end Go.Proofs.Ytehlijnhhbdbhaa
