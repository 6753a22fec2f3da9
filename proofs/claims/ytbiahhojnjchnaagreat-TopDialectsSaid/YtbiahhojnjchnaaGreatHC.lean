/-
  Closed facts of the program that every statement of this seat asks. A slice that came in: how long it may be.
-/
import Derived.Test.YtbiahhojnjchnaaGreatBase
import Derived.SizedLaws
set_option linter.unusedVariables false
set_option linter.unusedSimpArgs false
namespace Go.Proofs.YtbiahhojnjchnaaGreat.Shut
open Go.ChangeShapes Go.WideShapes Go.ChangeAt Go.RowKit Go.Deep
set_option maxHeartbeats 8000000
theorem band {a b : Bool} (h : a = true) (k : b = true) : (a && b) = true := by rw [h, k]; rfl
theorem pLaid : laidOutB Tryz.prog = true := by kernel_rfl
theorem pRowed : mapsRowed Tryz.prog = true := by kernel_rfl
theorem pHeard : Tryz.prog.stopsHeard = true := by kernel_rfl
theorem pEnter : Tryz.prog.mayEnter = true := by kernel_rfl
theorem pLifts : (Rows.bracketTurnsRow.lifted == Tryz.prog.liftsFinal) = true := by kernel_rfl
theorem pMake : (Tryz.prog.make == some Rows.bracketTurnsRow.make) = true := by kernel_rfl
theorem pKeys : (Rows.bracketTurnsRow.plainKeys == Tryz.prog.plainKeys) = true := by kernel_rfl
theorem lifts (l : Bool) (h : l = Rows.bracketTurnsRow.lifted) : (l == Tryz.prog.liftsFinal) = true := by rw [h]; exact pLifts
theorem makes {m : Make} (h : m = Rows.bracketTurnsRow.make) : (Tryz.prog.make == some m) = true := by rw [h]; exact pMake
theorem keys {m : Bool} (h : m = Rows.bracketTurnsRow.plainKeys) : (m == Tryz.prog.plainKeys) = true := by rw [h]; exact pKeys
end Go.Proofs.YtbiahhojnjchnaaGreat.Shut
namespace Go.Proofs.YtbiahhojnjchnaaGreat
open Go.ChangeShapes Go.WideShapes Go.ChangeAt Go.RowKit Go.Deep
theorem slice_reach {H : Type} {enc : TypeId × Value → H} {W : World} {base : Nat} {held : Bool} {t e : TypeId} {a : Option Addr} {len cap : Nat} {d : DataW H} {p : List MemPlace} (ht : Tryz.prog.underlying t = some (.slice e))
    (h : DataW.Trod enc Tryz.prog W base (fun _ => true) held t (.slice a len cap) d p) : len = 0 ∨ ∃ elems spare, d = .slice elems spare ∧ elems.length = len := by
  obtain ⟨fuel, hf⟩ := h
  rcases open_slice ht hf with ⟨hcs, _⟩ | ⟨x, l, c, m, n, D, Pl, hcs, _, _, _, _, hx, _⟩
  · simp [Value.cells] at hcs
    exact .inl hcs.2.1
  · simp [Value.cells] at hcs
    obtain ⟨rfl, rfl, rfl⟩ := hcs
    injection hx with hx1 _
    exact .inr ⟨_, _, hx1, by simp⟩
end Go.Proofs.YtbiahhojnjchnaaGreat
