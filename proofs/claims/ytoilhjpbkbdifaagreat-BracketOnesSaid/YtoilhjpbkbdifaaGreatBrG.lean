/- A bracket expression of letters, read: walked. -/
import Derived.Test.YtoilhjpbkbdifaaGreatBrF
import Derived.Defers
import Derived.Recover
set_option linter.unusedVariables false
set_option linter.unusedSimpArgs false
namespace Go.Proofs.YtoilhjpbkbdifaaGreat
open Go.RowKit
def wpL (P : Program) (Q : Exit → Act → List Frame → World → Prop) : List Oper → Act → List Frame → World → Prop
  | [], a, cs, w => Q .normal a cs w
  | o :: rest, a, cs, w => o.guard = none ∧ match (execOp a.eval o).run P w with
    | .ok .recover w' => (match recoverD cs with
      | some (v, cs') => wpL P Q rest (a.put o.dst v) cs' w'
      | none => wpL P Q rest (a.put o.dst .nilIface) cs w')
    | .ok (.value v) w' => wpL P Q rest (a.put o.dst v) cs w'
    | .ok .skip w' => wpL P Q rest (a.put o.dst undef) cs w'
    | _ => False
section
variable {P : Program} {ops : Array Oper} {Q : Exit → Act → List Frame → World → Prop}
theorem wpOpsS_of_L : ∀ (os : List Oper) (k : Nat) (a : Act) (cs : List Frame) (w : World), ops.toList.drop k = os → wpL P Q os a cs w → wpOpsS P ops Q (List.range' k os.length) a cs w := by
  intro os
  induction os with
  | nil => intro k a cs w _ h; exact h
  | cons o rest ih =>
    intro k a cs w hk h
    have hlt : k < ops.toList.length := by
      rcases Nat.lt_or_ge k ops.toList.length with h' | h'
      · exact h'
      · rw [List.drop_eq_nil_of_le h'] at hk; cases hk
    have ho : ops[k]? = some o := by
      rw [List.drop_eq_getElem_cons hlt] at hk
      injection hk with h1 h2
      rw [← h1]
      simp at hlt
      simp [hlt]
    have hr : ops.toList.drop (k + 1) = rest := by
      rw [List.drop_eq_getElem_cons hlt] at hk
      injection hk
    rw [List.length_cons, List.range'_succ, wpOpsS, ho]
    obtain ⟨hg, h⟩ := h
    simp only [Region.wanted, hg, if_true]
    split at h
    · rename_i w' e
      rw [e]
      simp only
      split at h
      · rename_i v cs' e2
        rw [e2]; exact ih _ _ _ _ hr h
      · rename_i e2
        rw [e2]; exact ih _ _ _ _ hr h
    · rename_i v w' e
      rw [e]; exact ih _ _ _ _ hr h
    · rename_i w' e
      rw [e]; exact ih _ _ _ _ hr h
    · exact h.elim
theorem wpS_regionL {id : Nat} {a : Act} {cs : List Frame} {w : World} (h : wpL P Q ops.toList a cs w) : (Code.region id ops false).wpS P Q a cs w := by
  refine wpS_region ?_
  have := wpOpsS_of_L (P := P) (Q := Q) (ops := ops) ops.toList 0 a cs w (List.drop_zero ..) h
  rwa [Array.length_toList, ← List.range_eq_range'] at this
variable {a : Act} {cs cs' : List Frame} {w w' : World} {o : Oper} {rest : List Oper} {v : Value}
theorem wpL_recover (hg : o.guard = none) (hr : (execOp a.eval o).run P w = .ok .recover w) (hc : recoverD cs = some (v, cs')) (h : wpL P Q rest (a.put o.dst v) cs' w) : wpL P Q (o :: rest) a cs w := by
  refine ⟨hg, ?_⟩; rw [hr]; simp only [hc]; exact h
theorem wpL_recover_none (hg : o.guard = none) (hr : (execOp a.eval o).run P w = .ok .recover w) (hc : recoverD cs = none) (h : wpL P Q rest (a.put o.dst .nilIface) cs w) : wpL P Q (o :: rest) a cs w := by
  refine ⟨hg, ?_⟩; rw [hr]; simp only [hc]; exact h
theorem wpL_value (hg : o.guard = none) (hr : (execOp a.eval o).run P w = .ok (.value v) w') (h : wpL P Q rest (a.put o.dst v) cs w') : wpL P Q (o :: rest) a cs w := by
  refine ⟨hg, ?_⟩; rw [hr]; exact h
theorem wpL_skip (hg : o.guard = none) (hr : (execOp a.eval o).run P w = .ok .skip w') (h : wpL P Q rest (a.put o.dst undef) cs w') : wpL P Q (o :: rest) a cs w := by
  refine ⟨hg, ?_⟩; rw [hr]; exact h
end
theorem assertNil (w : World) : (Instr.typeAssert .nilIface 20 30 true).run Tryz.prog w = .ok (.tuple #[.agg #[.int .i64 0, .int .i64 0], .bool false]) w := by kernel_rfl
set_option maxHeartbeats 4000000 in
set_option maxRecDepth 100000 in
/-- a frame that returns: nothing to recover -/
theorem idle19 (p q r : Value) (w : World) :
    CallsD Tryz.prog 19 #[p, q, r] .returning w fun e u' w' => e = .returned (.tuple #[]) ∧ u' = .returning ∧ Below w.heap.size w w' := by
  refine callsD_of_wpS Tryz.func19 rfl fun c₀ cs hu => ?_
  apply wpS_seq
  refine wpS_regionL ?_
  simp only [Tryz.ntmps19]
  refine wpL_recover_none rfl ?_ ?_ ?_
  · simp [execOp, go_sem]
  · simp only [recoverD, hu]
  refine wpL_value rfl ?_ ?_ (w' := w) (v := .tuple #[.agg #[.int .i64 0, .int .i64 0], .bool false])
  · simp [execOp, go_sem, Array.replicate, assertNil]
  refine wpL_value rfl ?_ ?_ (w' := w) (v := .tuple #[.agg #[.int .i64 0, .int .i64 0], .bool false])
  · simp [execOp, go_sem, Array.replicate]
  refine wpL_value rfl ?_ ?_ (w' := w) (v := .agg #[.int .i64 0, .int .i64 0])
  · simp [execOp, go_sem, Array.replicate]
  refine wpL_value rfl ?_ ?_ (w' := w) (v := .bool false)
  · simp [execOp, go_sem, Array.replicate]
  refine wpL_value rfl ?_ ?_ (w' := w.alloc (.cells #[.int .i64 0, .int .i64 0] 30)) (v := .pointer (some ⟨w.heap.size, 0, none⟩))
  · simp [execOp, go_sem, Array.replicate]
  refine wpL_skip rfl ?_ ?_ (w' := w.alloc (.cells #[.int .i64 0, .int .i64 0] 30))
  · simp [execOp, go_sem, Array.replicate]
  refine wpL_value rfl ?_ ?_ (w' := w.alloc (.cells #[.int .i64 0, .int .i64 0] 30)) (v := .bool false)
  · simp [execOp, go_sem, Array.replicate]
  show Code.wpS _ _ _ _ _ _
  apply wpS_seq
  refine wpS_regionL ?_
  refine wpL_value rfl ?_ ?_ (w' := w.alloc (.cells #[.int .i64 0, .int .i64 0] 30)) (v := .bool false)
  · simp [execOp, go_sem, Array.replicate]
  show Code.wpS _ _ _ _ _ _
  refine wpS_cond (t := false) (by simp [Act.eval, Act.put, Array.replicate]) ?_
  simp only [Bool.false_eq_true, if_false]
  refine wpS_of_wp (wp_skip ?_)
  show bodyPostS _ _ _ _ _ _ _ _ _
  have hc : c₀ :: cs = { c₀ with mode := .returning } :: cs := by cases c₀; simp_all
  exact ⟨rfl, .returning, hc, .tuple #[], by simp [results, Tryz.results19], rfl, rfl, (Below.refl _ _).alloc (Nat.le_refl _) _⟩
set_option maxHeartbeats 4000000 in
theorem clip22 (A : Option Addr) (n c : Nat) (w : World) (hn : n ≤ c) : Calls Tryz.prog 22 #[.slice A n c] w fun e w' => e = .returned (.slice A n n) ∧ w' = w := by
  have i1 : (0 : Int) ≤ (n : Int) := by omega
  have i2 : (n : Int) ≤ (c : Int) := by omega
  go_enter Tryz.func22, Tryz.ntmps22
  go_wp2
  go_ret
  exact ⟨rfl, rfl⟩
theorem below_kept {b : Nat} {w W w1 : World} (hB : Below w.heap.size w W) (hk : Kept b W w1) (hb : w.heap.size ≤ b) : Below w.heap.size w w1 :=
  ⟨hk.os.trans hB.os, hk.tape.trans hB.tape, hk.output.trans hB.output, Nat.le_trans hB.size hk.size, fun k h => (hk.block k (Nat.lt_of_lt_of_le h hB.size) (by omega)).trans (hB.block k h)⟩
theorem raw_end {w W2 : World} {A1 : Option Addr} {n1 c1 k : Nat} {x : Int} {out : List (Int × Int)} (V : World) (hV : V = ((((W2.setCell ⟨w.heap.size, 0, none⟩ (.slice A1 n1 n1)).setCell ⟨w.heap.size + 1, 0, none⟩ (.int .i64 x)).setCell ⟨w.heap.size + 1 + 1, 0, none⟩ (.int .i64 0)).setCell ⟨w.heap.size + 1 + 1, 1, none⟩ (.int .i64 0)).drew)
    (h0 : W2.heap[w.heap.size]? = some (.cells #[.slice A1 n1 c1] 24 (0, 0))) (h1 : W2.heap[w.heap.size + 1]? = some (.cells #[.int .i64 0] 3 (0, 0))) (h2 : W2.heap[w.heap.size + 1 + 1]? = some (.cells #[.int .i64 0, .int .i64 0] 30 (0, 0))) (hb : Below w.heap.size w W2) (ho : W2.ownsRow k 27 2 (.slice A1 n1 c1) n1 (rngs out)) (hk : w.heap.size + 1 + 1 < k) :
    V.heap[w.heap.size]? = some (.cells #[.slice A1 n1 n1] 24 (0, 0)) ∧ V.heap[w.heap.size + 1]? = some (.cells #[.int .i64 x] 3 (0, 0)) ∧ V.heap[w.heap.size + 1 + 1]? = some (.cells #[.int .i64 0, .int .i64 0] 30 (0, 0)) ∧ Below w.heap.size w V ∧ Rds V V.heap.size 2 A1 n1 (rngs out) := by
  subst hV
  refine ⟨?_, ?_, ?_, ?_, ?_⟩
  · exact hz_set (hz_set (hz_set (put1 h0 rfl) (by simp)) (by simp; omega)) (by simp; omega)
  · exact hz_set (hz_set (put1 (hz_set h1 (by simp)) rfl) (by simp)) (by simp)
  · exact put1 (put1 (hz_set (hz_set h2 (by simp; omega)) (by simp)) rfl) rfl
  · exact Below.drew ((((hb.setCell (Nat.le_refl _) _).setCell (by simp) _).setCell (by simp; omega) _).setCell (by simp; omega) _)
  · have o1 := own_keptb ho ((Kept.refl w.heap.size W2).set 0 (.slice A1 n1 n1)) (by omega)
    have o2 := own_keptb o1 ((Kept.refl (w.heap.size + 1) _).set 0 (.int .i64 x)) (by omega)
    have o3 := own_keptb o2 ((Kept.refl (w.heap.size + 1 + 1) _).set 0 (.int .i64 0)) (by omega)
    have o4 := own_keptb o3 ((Kept.refl (w.heap.size + 1 + 1) _).set 1 (.int .i64 0)) (by omega)
    exact (Rds.of_own o4).drew
set_option maxHeartbeats 8000000 in
set_option maxRecDepth 100000 in
theorem raw_plain (HSORT : Hid SortC) {d ee : Int} {A : Option Addr} {l : List Int} {n c : Nat} {w : World} {D : List (Int × Int)} (hs : Spans l 0 D ee) (hD : D ≠ []) (hDn : D.length ≤ 300) (hn : n ≤ 300) (hc : n ≤ c) (ha : Rds w w.heap.size 1 A n (ints l)) :
    Calls Tryz.prog 12 #[.int .i64 d, .slice A n c, .int .i64 0, .bool false] w fun e w' => ∃ out A' n', IsSet out (mem D) ∧ out.length ≤ D.length ∧ e = .returned (.tuple #[.slice A' n' n', .int .i64 (ee + 1), .agg #[.int .i64 0, .int .i64 0]]) ∧ Rds w' w'.heap.size 2 A' n' (rngs out) ∧ Below w.heap.size w w' := by
  have hmf : ∀ (fn : Fn) (first cap : Array Value) (w : World), (Instr.makeFunc fn first cap).run Tryz.prog w = .ok (.func fn first cap) w := fun _ _ _ _ => rfl
  obtain ⟨W, hW⟩ : ∃ W, W = (((w.alloc (.cells #[.slice none 0 0] 24)).alloc (.cells #[.int .i64 0] 3)).alloc (.cells #[.int .i64 0, .int .i64 0] 30)).alloc (.cells #[.int .i64 d, .slice A n c, .int .i64 0, .bool false, .int .i64 0] 47) := ⟨_, rfl⟩
  have hB : Below w.heap.size w W := by rw [hW]; go_grown
  have hsW : W.heap.size = w.heap.size + 4 := by rw [hW]; simp
  have z0 : W.heap[w.heap.size]? = some (.cells #[.slice none 0 0] 24 (0, 0)) := by rw [hW]; exact hz_alloc (hz_alloc (hz_alloc (heap_alloc_new w _)))
  have z1 : W.heap[w.heap.size + 1]? = some (.cells #[.int .i64 0] 3 (0, 0)) := by rw [hW]; have := heap_alloc_new (w.alloc (.cells #[.slice none 0 0] 24)) (.cells #[.int .i64 0] 3); exact hz_alloc (hz_alloc (by simpa using this))
  have z2 : W.heap[w.heap.size + 1 + 1]? = some (.cells #[.int .i64 0, .int .i64 0] 30 (0, 0)) := by rw [hW]; have := heap_alloc_new ((w.alloc (.cells #[.slice none 0 0] 24)).alloc (.cells #[.int .i64 0] 3)) (.cells #[.int .i64 0, .int .i64 0] 30); exact hz_alloc (by simpa using this)
  have z3 : W.heap[w.heap.size + 1 + 1 + 1]? = some (.cells #[.int .i64 d, .slice A n c, .int .i64 0, .bool false, .int .i64 0] 47 (0, 0)) := by rw [hW]; have := heap_alloc_new (((w.alloc (.cells #[.slice none 0 0] 24)).alloc (.cells #[.int .i64 0] 3)).alloc (.cells #[.int .i64 0, .int .i64 0] 30)) (.cells #[.int .i64 d, .slice A n c, .int .i64 0, .bool false, .int .i64 0] 47); simpa using this
  have HS := Lib.hid (show BSt (w.heap.size + 1 + 1 + 1) n c d false 0 A l 0 W from ⟨z3, (ha.below hB (Nat.le_refl _)).more (by omega), Int.le_refl _, by omega, hn, hc⟩)
  have C := Lib.hid (all_plain HSORT HS.out hs hD hDn)
  clear ha z3
  go_enter_defers Tryz.func12, Tryz.ntmps12
  go_wp2_with fail
  rw [← hW]
  refine C.out.mono ?_
  rintro e w1 ⟨out, A1, n1, c1, hset, hln, rfl, hown, hS1, hk⟩
  have y0 := (hk.block _ (by omega) (by omega)).trans z0
  have y1 := (hk.block _ (by omega) (by omega)).trans z1
  have y2 := (hk.block _ (by omega) (by omega)).trans z2
  have HB1 := Lib.hid (below_kept hB hk (by omega))
  have HS1 := Lib.hid hS1
  have HO1 := Lib.hid hown
  have HSET := Lib.hid hset
  have hn1 : n1 ≤ 300 := by rw [own_rngs_len hown]; omega
  obtain ⟨_, _, hv1, q1, q2⟩ := own_slice hown
  injection hv1 with e1 e2 e3
  subst e1 e3
  have f0 : w1.cell? ⟨w.heap.size, 0, none⟩ = some (.slice none 0 0) := cell_of_row _ _ 0 _ _ _ y0
  have f0' : w1.frozen? ⟨w.heap.size, 0, none⟩ = false := frozen_row y0
  have HY0 := Lib.hid y0
  have HY1 := Lib.hid y1
  have HY2 := Lib.hid y2
  have e4 : (decide ((400 : Int) < (n1 : Int))) = false := decide_eq_false (by omega)
  have HSZ := Lib.hid hsW
  clear hset hown hS1 hk C hW hB y0 y1 y2 z0 z1 z2 hsW
  go_upto_region 6 with (fail)
  obtain ⟨W2, hW2⟩ : ∃ X, X = w1.setCell ⟨w.heap.size, 0, none⟩ (.slice A1 n1 c1) := ⟨_, rfl⟩
  have HB2 := Lib.hid (show Below w.heap.size w W2 by rw [hW2]; exact HB1.out.setCell (Nat.le_refl _) _)
  have HO2 := Lib.hid (show W2.ownsRow W.heap.size 27 2 (.slice A1 n1 c1) n1 (rngs out) by rw [hW2]; exact own_keptb HO1.out ((Kept.refl w.heap.size w1).set 0 _) (by rw [HSZ.out]; omega))
  have HS2 := Lib.hid (show RdAt (w.heap.size + 1 + 1 + 1) d A n c (ee + 1) false 0 W2 by rw [hW2]; exact hz_set HS1.out.rd (show w.heap.size + 1 + 1 + 1 ≠ w.heap.size by omega))
  have HY0' := Lib.hid (show W2.heap[w.heap.size]? = some (.cells #[.slice A1 n1 c1] 24 (0, 0)) by rw [hW2]; exact put1 HY0.out rfl)
  have HY1' := Lib.hid (show W2.heap[w.heap.size + 1]? = some (.cells #[.int .i64 0] 3 (0, 0)) by rw [hW2]; exact hz_set HY1.out (by simp))
  have HY2' := Lib.hid (show W2.heap[w.heap.size + 1 + 1]? = some (.cells #[.int .i64 0, .int .i64 0] 30 (0, 0)) by rw [hW2]; exact hz_set HY2.out (by simp; omega))
  rw [← hW2]
  clear hW2 HB1 HO1 HS1 HY0 HY1 HY2 f0 f0'
  have f0 := cell_of_row _ _ 0 _ _ _ HY0'.out
  have f0' := frozen_row (o := 0) HY0'.out
  have f1 := cell_of_row _ _ 0 _ _ _ HY1'.out
  have f1' := frozen_row (o := 0) HY1'.out
  have f2 := cell_of_row _ _ 0 _ _ _ HY2'.out
  have f2' := frozen_row (o := 0) HY2'.out
  have f3 := cell_of_row _ _ 1 _ _ _ HY2'.out
  have f3' := frozen_row (o := 1) HY2'.out
  obtain ⟨c0, c1', c2, c3, g2⟩ := HS2.out.cells
  clear c0 c1' c3 g2
  refine wp_region_noPanic ?_
  go_region_with (go_at_call 22; (with_reducible refine (clip22 A1 n1 c1 _ q1).mono ?_); rintro e w' ⟨rfl, rfl⟩)
  all_goals (refine NoPanic.normal ?_)
  all_goals go_wp2_with fail
  all_goals
    obtain ⟨V, hV⟩ : ∃ V, V = ((((W2.setCell ⟨w.heap.size, 0, none⟩ (.slice A1 n1 n1)).setCell ⟨w.heap.size + 1, 0, none⟩ (.int .i64 (ee + 1))).setCell ⟨w.heap.size + 1 + 1, 0, none⟩ (.int .i64 0)).setCell ⟨w.heap.size + 1 + 1, 1, none⟩ (.int .i64 0)).drew := ⟨_, rfl⟩
    have E := Lib.hid (raw_end V hV HY0'.out HY1'.out HY2'.out HB2.out HO2.out (by rw [HSZ.out]; omega))
    rw [← hV]
    clear hV HY0' HY1' HY2' HB2 HO2 HS2 f0 f0' f1 f1' f2 f2' f3 f3' c2
    refine leaves_cons (f := 19) (args := #[.pointer (some ⟨w.heap.size, 0, none⟩), .pointer (some ⟨w.heap.size + 1, 0, none⟩), .pointer (some ⟨w.heap.size + 1 + 1, 0, none⟩)]) (by simp) (by simp [go_sem]) ?_
    refine (idle19 _ _ _ _).mono ?_
    rintro e u' w3 ⟨rfl, rfl, hb⟩
    have S1 := row_next E.out.1 hb
    have S2 := row_next E.out.2.1 hb
    have S3 := row_next E.out.2.2.1 hb
    have HB3 := Lib.hid (E.out.2.2.2.1.trans (hb.mono E.out.2.2.2.1.size))
    have HR3 := Lib.hid ((E.out.2.2.2.2.below hb (Nat.le_refl _)).more hb.size)
    have f0 := cell_of_row _ _ 0 _ _ _ S1
    have f1 := cell_of_row _ _ 0 _ _ _ S2
    have f2 := cell_of_row _ _ 0 _ _ _ S3
    have f3 := cell_of_row _ _ 1 _ _ _ S3
    clear S1 S2 S3 hb E
    simp at f0 f1 f2 f3
    simp [Leaves, settle, results, Tryz.results12, go_sem, f0, f1, f2, f3]
    exact ⟨out, HSET.out, hln, A1, n1, ⟨rfl, rfl⟩, HR3.out, HB3.out⟩
end Go.Proofs.YtoilhjpbkbdifaaGreat
