/- Closed facts of the program that every statement of this seat asks. -/
import Derived.Test.YtpdcbddofekbcaaGreatBase
namespace Go.Proofs.YtpdcbddofekbcaaGreat.Shut
open Go.ChangeShapes Go.WideShapes Go.ChangeAt Go.RowKit Go.Deep
set_option maxHeartbeats 8000000
theorem band {a b : Bool} (h : a = true) (k : b = true) : (a && b) = true := by rw [h, k]; rfl
theorem pLaid : laidOutB Tryz.prog = true := by kernel_rfl
theorem pRowed : mapsRowed Tryz.prog = true := by kernel_rfl
theorem pHeard : Tryz.prog.stopsHeard = true := by kernel_rfl
theorem pEnter : Tryz.prog.mayEnter = true := by kernel_rfl
theorem pLifts : (Rows.restSetsRow.lifted == Tryz.prog.liftsFinal) = true := by kernel_rfl
theorem pMake : (Tryz.prog.make == some Rows.restSetsRow.make) = true := by kernel_rfl
theorem pKeys : (Rows.restSetsRow.plainKeys == Tryz.prog.plainKeys) = true := by kernel_rfl
theorem lifts (l : Bool) (h : l = Rows.restSetsRow.lifted) : (l == Tryz.prog.liftsFinal) = true := by rw [h]; exact pLifts
theorem makes {m : Make} (h : m = Rows.restSetsRow.make) : (Tryz.prog.make == some m) = true := by rw [h]; exact pMake
theorem keys {m : Bool} (h : m = Rows.restSetsRow.plainKeys) : (m == Tryz.prog.plainKeys) = true := by rw [h]; exact pKeys
end Go.Proofs.YtpdcbddofekbcaaGreat.Shut
