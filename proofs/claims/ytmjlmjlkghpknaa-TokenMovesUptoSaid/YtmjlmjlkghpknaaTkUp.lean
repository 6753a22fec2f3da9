/- Rows of numbers that came in; what their bulk bounds. -/
import Derived.Test.YtmjlmjlkghpknaaBase
import Derived.Test.YtmjlmjlkghpknaaRows
namespace Go.Proofs.Ytmjlmjlkghpknaa
open Go.RowKit
set_option linter.unusedVariables false
namespace bulks
theorem one_le {H : Type} (d : DataW H) : 1 ≤ Rows.uptoBulk d := by
  cases d with
  | lit l => cases l <;> simp [Rows.uptoBulk]
  | nil => simp [Rows.uptoBulk]
  | ptr d => simp [Rows.uptoBulk]
  | slice elems spare => simp [Rows.uptoBulk]
  | agg parts => simp [Rows.uptoBulk]
  | iface t d => simp [Rows.uptoBulk]
  | map entries => simp [Rows.uptoBulk]
  | held h => simp [Rows.uptoBulk]
/-- a part's bulk is at most the whole's -/
theorem part_le {H : Type} {d : DataW H} {l : List (DataW H)} (h : d ∈ l) : Rows.uptoBulk d ≤ Rows.uptoBulkAll l := by
  induction l with
  | nil => cases h
  | cons x r ih =>
    simp only [Rows.uptoBulkAll]
    cases List.mem_cons.1 h with
    | inl e => subst e; omega
    | inr e => have := ih e; omega
theorem agg_le {H : Type} {d : DataW H} {l : List (DataW H)} (h : d ∈ l) : Rows.uptoBulk d ≤ Rows.uptoBulk (.agg l) := by
  have := part_le h
  simp only [Rows.uptoBulk]; omega
theorem slice_el {H : Type} {d : DataW H} {l s : List (DataW H)} (h : d ∈ l) : Rows.uptoBulk d ≤ Rows.uptoBulk (.slice l s) := by
  have := part_le h
  simp only [Rows.uptoBulk]; omega
theorem length_le {H : Type} (l : List (DataW H)) : l.length ≤ Rows.uptoBulkAll l := by
  induction l with
  | nil => simp
  | cons x r ih => have := one_le x; simp only [Rows.uptoBulkAll, List.length_cons]; omega
theorem slice_len {H : Type} (l s : List (DataW H)) : l.length ≤ Rows.uptoBulk (.slice l s) := by
  have := length_le l
  simp only [Rows.uptoBulk]; omega
theorem string_eq {H : Type} (bytes : List UInt8) : Rows.uptoBulk (DataW.lit (H := H) (.string bytes)) = bytes.length + 1 := by
  simp [Rows.uptoBulk]
end bulks
section
open Go.ChangeShapes Go.WideShapes Go.Deep
variable {H : Type} {enc : TypeId × Value → H} {W : World} {base : Nat} {held : Bool}
theorem arg_ints_bulk {t e : TypeId} {a : Option Addr} {len cap : Nat} {d : DataW H} {p : List MemPlace} (ht : Try.prog.underlying t = some (.slice e)) (he : Try.prog.underlying e = some (.int .i64)) (hc : Try.prog.cellsOf e = 1)
    (h : DataW.Trod enc Try.prog W base (fun _ => true) held t (.slice a len cap) d p) :
    ∃ l : List Int, Rds W W.heap.size 1 a len (ints l) ∧ len ≤ cap ∧ cap ≤ maxLen ∧ (∀ x ∈ l, -9223372036854775808 ≤ x ∧ x ≤ 9223372036854775807) ∧ len ≤ Rows.uptoBulk d := by
  obtain ⟨l, h1, h2, h3, h4⟩ := arg_ints ht he hc h
  refine ⟨l, h1, h2, h3, h4, ?_⟩
  obtain ⟨fuel, hf⟩ := h
  rcases open_ints ht he hc hf with ⟨hcs, hx⟩ | ⟨x, ln, c, zs, hcs, _, hl, hm, hz, hx, _⟩
  · simp [Value.cells] at hcs
    omega
  · simp [Value.cells] at hcs
    obtain ⟨rfl, rfl, rfl⟩ := hcs
    simp only [if_true] at hz
    injection hx with hx1 hx2
    rw [hx1]
    have := bulks.slice_len (H := H) (lits .i64 (zs.take len)) (lits .i64 (zs.drop len))
    have h5 : (lits (H := H) IntKind.i64 (zs.take len)).length = len := by simp [lits]; omega
    omega
end
end Go.Proofs.Ytmjlmjlkghpknaa
