/- Closed facts of the program that every statement of this seat asks. -/
import Derived.Test.YtbekjfoefjnidaaDoorBase
namespace Go.Proofs.YtbekjfoefjnidaaDoor.Shut
open Go.ChangeShapes Go.WideShapes Go.ChangeAt Go.RowKit Go.Deep
set_option maxHeartbeats 8000000
theorem band {a b : Bool} (h : a = true) (k : b = true) : (a && b) = true := by rw [h, k]; rfl
theorem pLaid : laidOutB Tryd.prog = true := by kernel_rfl
theorem pRowed : mapsRowed Tryd.prog = true := by kernel_rfl
theorem pHeard : Tryd.prog.stopsHeard = true := by kernel_rfl
theorem pEnter : Tryd.prog.mayEnter = true := by kernel_rfl
theorem pLifts : (Rows.showNodesRow.lifted == Tryd.prog.liftsFinal) = true := by kernel_rfl
theorem pMake : (Tryd.prog.make == some Rows.showNodesRow.make) = true := by kernel_rfl
theorem pKeys : (Rows.showNodesRow.plainKeys == Tryd.prog.plainKeys) = true := by kernel_rfl
theorem lifts (l : Bool) (h : l = Rows.showNodesRow.lifted) : (l == Tryd.prog.liftsFinal) = true := by rw [h]; exact pLifts
theorem makes {m : Make} (h : m = Rows.showNodesRow.make) : (Tryd.prog.make == some m) = true := by rw [h]; exact pMake
theorem keys {m : Bool} (h : m = Rows.showNodesRow.plainKeys) : (m == Tryd.prog.plainKeys) = true := by rw [h]; exact pKeys
end Go.Proofs.YtbekjfoefjnidaaDoor.Shut
