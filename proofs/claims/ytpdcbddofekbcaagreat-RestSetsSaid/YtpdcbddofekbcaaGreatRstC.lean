/- A slice that came in: how long it may be. -/
import Derived.Test.YtpdcbddofekbcaaGreatRstB
import Derived.SizedLaws
namespace Go.Proofs.YtpdcbddofekbcaaGreat
open Go.ChangeShapes Go.WideShapes Go.ChangeAt Go.RowKit Go.Deep
theorem slice_reach {H : Type} {enc : TypeId × Value → H} {W : World} {base : Nat} {held : Bool} {t e : TypeId} {a : Option Addr} {len cap : Nat} {d : DataW H} {p : List MemPlace} (ht : Tryz.prog.underlying t = some (.slice e))
    (h : DataW.Trod enc Tryz.prog W base (fun _ => true) held t (.slice a len cap) d p) : len = 0 ∨ ∃ elems spare, d = .slice elems spare ∧ elems.length = len := by
  obtain ⟨fuel, hf⟩ := h
  rcases open_slice ht hf with ⟨hcs, _⟩ | ⟨x, l, c, m, n, D, Pl, hcs, _, _, _, _, hx, _⟩
  · simp [Value.cells] at hcs
    exact .inl hcs.2.1
  · simp [Value.cells] at hcs
    obtain ⟨rfl, rfl, rfl⟩ := hcs
    injection hx with hx1 _
    exact .inr ⟨_, _, hx1, by simp⟩
end Go.Proofs.YtpdcbddofekbcaaGreat
