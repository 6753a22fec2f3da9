/- An item of a bracket expression, a letter: walked. -/
import Derived.Test.YtbiahhojnjchnaaGreatGU
set_option linter.unusedVariables false
set_option linter.unusedSimpArgs false
namespace Go.Proofs.YtbiahhojnjchnaaGreat
open Go.RowKit
theorem results_cell_one {fn : Func} {p : Tmp} {ty : TypeId} (h : fn.results = #[.cell p ty]) (tmps : Array Value) (P : Program) (w : World) :
    (results fn tmps).run P w = ((asAddr (tmps.getD p undef)).run P w).andThen fun a w₁ => (loadVar ty a).run P w₁ := by
  simp only [results, h]
  simp [Sem.run_bind, Result.andThen]
set_option maxRecDepth 100000 in
set_option maxHeartbeats 4000000 in
theorem named_no {b n c : Nat} {d dp at_ : Int} {fo : Bool} {A : Option Addr} {l : List Int} {w : World} (h : BSt b n c d fo dp A l at_ w) (hv : ptAt l at_ ≠ 91) :
    Calls Tryz.prog 184 #[.pointer (some ⟨b, 0, none⟩)] w fun e w' => e = .returned (.tuple #[.agg #[.slice none 0 0, .int .i64 0], .bool false]) ∧ Below w.heap.size w w' := by
  have hB0 : Below w.heap.size w (w.alloc (.cells #[.slice none 0 0, .int .i64 0] 167)) := (Below.refl _ _).alloc (Nat.le_refl _) _
  have h1 := h.next (hB0.alloc (by simp) (.cells #[.int .i32 91, .int .i32 58] 21))
  have C := may_no (cc := 2) h1 (cs := [91, 58]) (by simp [saysB, hv]) (runes_new _ [91, 58] #[.int .i32 91, .int .i32 58] 2 rfl rfl) (by simp) (by decide)
  rw [show (w.alloc (.cells #[.slice none 0 0, .int .i64 0] 167)).heap.size = w.heap.size + 1 from by simp] at C
  have C := Lib.hid C
  obtain ⟨c0, c1, c2, c3, f2⟩ := (h.next hB0).rd.cells
  have hl := h.lt
  clear h h1 hv c0 c1 c3 f2
  go_enter Tryz.func184, Tryz.ntmps184
  go_upto_region 3 with (first
    | (go_at_call 89; (with_reducible refine C.out.mono ?_); rintro e w1 ⟨rfl, q, rfl⟩))
  repeat (first | go_values | go_skip | go_guarded | go_step | go_upon | (simp only []))
  (try simp only [Exit.inBlock, Exit.then])
  refine bodyPost_ret (v := .tuple #[.agg #[.slice none 0 0, .int .i64 0], .bool false]) ?_ rfl ?_
  · rw [results_cell_tmp rfl]
    go_simp
  · refine ⟨rfl, ?_⟩
    (repeat' (first | (with_reducible exact Below.refl _ _) | (with_reducible refine Below.setCell ?_ (by simp <;> omega) _) | (with_reducible refine Below.alloc ?_ (by simp <;> omega) _) | with_reducible refine below_drewN ?_ _))
theorem rds_at {w : World} {g B n size : Nat} {cs : Array Value} {t : TypeId} {xs : List Value} (h : w.heap[g]? = some (.cells cs t (0, 0))) (hx : cs.toList = xs) (hn : xs.length = n * size) (hB : g < B) : Rds w B size (some ⟨g, 0, none⟩) n xs := by
  refine ⟨hn, fun _ => ⟨g, 0, rfl, hB, fun j u hj => ?_⟩⟩
  rw [Nat.zero_add, cell_of_row _ _ _ _ _ _ h]
  rw [← hx] at hj
  simpa using hj
set_option maxRecDepth 100000 in
set_option maxHeartbeats 4000000 in
theorem single52 (p : Int) (w : World) : Calls Tryz.prog 186 #[.int .i64 p] w fun e w' => e = .returned (.agg #[.slice (some ⟨w.heap.size + 1, 0, none⟩) 1 1, .int .i64 p]) ∧ w'.heap[w.heap.size + 1]? = some (.cells #[.int .i64 p, .int .i64 p] 67 (0, 0)) ∧ Below w.heap.size w w' := by
  go_enter Tryz.func186, Tryz.ntmps186
  repeat (first | go_values | go_skip | go_guarded | go_step | go_upon | (simp only []))
  (try simp only [Exit.inBlock, Exit.then])
  refine bodyPost_ret (v := .agg #[.slice (some ⟨w.heap.size + 1, 0, none⟩) 1 1, .int .i64 p]) ?_ rfl ?_
  · rw [results_cell_one rfl]
    go_simp
  · refine ⟨rfl, ?_, ?_⟩
    · have := heap_alloc_new (w.alloc (.cells #[.slice (some ⟨w.heap.size + 1, 0, none⟩) 1 1, .int .i64 p] 167)) (.cells #[.int .i64 p, .int .i64 p] 67); simpa using this
    · (repeat' (first | (with_reducible exact Below.refl _ _) | (with_reducible refine Below.setCell ?_ (by simp <;> omega) _) | (with_reducible refine Below.alloc ?_ (by simp <;> omega) _) | with_reducible refine below_drewN ?_ _))
end Go.Proofs.YtbiahhojnjchnaaGreat
