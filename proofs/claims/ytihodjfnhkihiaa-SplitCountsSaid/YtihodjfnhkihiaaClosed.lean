/- Closed facts of the program that every statement of this seat asks. -/
import Derived.Test.YtihodjfnhkihiaaBase
namespace Go.Proofs.Ytihodjfnhkihiaa.Shut
open Go.ChangeShapes Go.WideShapes Go.ChangeAt Go.RowKit Go.Deep
set_option maxHeartbeats 8000000
theorem band {a b : Bool} (h : a = true) (k : b = true) : (a && b) = true := by rw [h, k]; rfl
theorem pLaid : laidOutB Try.prog = true := by kernel_rfl
theorem pRowed : mapsRowed Try.prog = true := by kernel_rfl
theorem pHeard : Try.prog.stopsHeard = true := by kernel_rfl
theorem pEnter : Try.prog.mayEnter = true := by kernel_rfl
theorem pLifts : (Rows.splitRoadsRow.lifted == Try.prog.liftsFinal) = true := by kernel_rfl
theorem pMake : (Try.prog.make == some Rows.splitRoadsRow.make) = true := by kernel_rfl
theorem pKeys : (Rows.splitRoadsRow.plainKeys == Try.prog.plainKeys) = true := by kernel_rfl
theorem lifts (l : Bool) (h : l = Rows.splitRoadsRow.lifted) : (l == Try.prog.liftsFinal) = true := by rw [h]; exact pLifts
theorem makes {m : Make} (h : m = Rows.splitRoadsRow.make) : (Try.prog.make == some m) = true := by rw [h]; exact pMake
theorem keys {m : Bool} (h : m = Rows.splitRoadsRow.plainKeys) : (m == Try.prog.plainKeys) = true := by rw [h]; exact pKeys
end Go.Proofs.Ytihodjfnhkihiaa.Shut
