/- widths: walked. -/
import Derived.Test.YtbekjfoefjnidaaFsJ
namespace Go.Proofs.Ytbekjfoefjnidaa
open Go.RowKit
set_option linter.unusedVariables false
theorem results_cell_one {fn : Func} {p : Tmp} {ty : TypeId} (h : fn.results = #[.cell p ty]) (tmps : Array Value) (P : Program) (w : World) :
    (results fn tmps).run P w = ((asAddr (tmps.getD p undef)).run P w).andThen fun a w₁ => (loadVar ty a).run P w₁ := by
  simp only [results, h]
  simp [Sem.run_bind, Result.andThen]
def wV (p : Int × Int) : Value := .agg #[.int .i64 p.1, .int .i64 p.2]
set_option maxRecDepth 100000 in
set_option maxHeartbeats 1000000 in
theorem capped53 (a b : Int) (w : World) : Calls Try.prog 53 #[.agg #[.int .i64 a, .int .i64 b]] w fun e w' => e = .returned (wV (capW (a, b))) ∧ Below w.heap.size w w' := by
  have HC := Lib.hid (show capW (a, b) = (min a 1000000, if 1000000 < b then -1 else b) from rfl)
  rw [HC.out]
  unfold wV
  simp only
  by_cases h1 : 1000000 < a
  · have m1 : min a 1000000 = 1000000 := by omega
    by_cases h2 : 1000000 < b
    · rw [if_pos h2]
      go_enter Try.func53, Try.ntmps53
      go_wp2
      (try simp only [Exit.inBlock, Exit.then])
      refine bodyPost_ret (v := .agg #[.int .i64 1000000, .int .i64 (-1)]) ?_ rfl ⟨by first | rfl | rw [m1], by (repeat' (first | (with_reducible exact Below.refl _ _) | (with_reducible assumption) | (with_reducible refine Below.setCell ?_ (by simp <;> omega) _) | (with_reducible refine Below.alloc ?_ (by simp <;> omega) _) | (with_reducible refine Below.drew ?_)))⟩
      rw [results_cell_one rfl]
      go_simp
    · rw [if_neg h2]
      go_enter Try.func53, Try.ntmps53
      go_wp2
      (try simp only [Exit.inBlock, Exit.then])
      refine bodyPost_ret (v := .agg #[.int .i64 1000000, .int .i64 b]) ?_ rfl ⟨by first | rfl | rw [m1], by (repeat' (first | (with_reducible exact Below.refl _ _) | (with_reducible assumption) | (with_reducible refine Below.setCell ?_ (by simp <;> omega) _) | (with_reducible refine Below.alloc ?_ (by simp <;> omega) _) | (with_reducible refine Below.drew ?_)))⟩
      rw [results_cell_one rfl]
      go_simp
  · have m1 : min a 1000000 = a := by omega
    by_cases h2 : 1000000 < b
    · rw [if_pos h2]
      go_enter Try.func53, Try.ntmps53
      go_wp2
      (try simp only [Exit.inBlock, Exit.then])
      refine bodyPost_ret (v := .agg #[.int .i64 a, .int .i64 (-1)]) ?_ rfl ⟨by first | rfl | rw [m1], by (repeat' (first | (with_reducible exact Below.refl _ _) | (with_reducible assumption) | (with_reducible refine Below.setCell ?_ (by simp <;> omega) _) | (with_reducible refine Below.alloc ?_ (by simp <;> omega) _) | (with_reducible refine Below.drew ?_)))⟩
      rw [results_cell_one rfl]
      go_simp
    · rw [if_neg h2]
      go_enter Try.func53, Try.ntmps53
      go_wp2
      (try simp only [Exit.inBlock, Exit.then])
      refine bodyPost_ret (v := .agg #[.int .i64 a, .int .i64 b]) ?_ rfl ⟨by first | rfl | rw [m1], by (repeat' (first | (with_reducible exact Below.refl _ _) | (with_reducible assumption) | (with_reducible refine Below.setCell ?_ (by simp <;> omega) _) | (with_reducible refine Below.alloc ?_ (by simp <;> omega) _) | (with_reducible refine Below.drew ?_)))⟩
      rw [results_cell_one rfl]
      go_simp
theorem res59 {w0 w1 : World} {o : Obj} {g : Nat} (hb : Below ((w0.alloc (.cells #[.int .i64 0, .int .i64 0] 59)).alloc o).heap.size ((w0.alloc (.cells #[.int .i64 0, .int .i64 0] 59)).alloc o) w1) (hg : g = w0.heap.size) :
    (∀ j, w1.frozen? ⟨g, j, none⟩ = false) ∧ w1.cell? ⟨g, 0, none⟩ = some (.int .i64 0) ∧ w1.cell? ⟨g, 1, none⟩ = some (.int .i64 0) := by
  subst hg
  have h : w1.heap[w0.heap.size]? = some (.cells #[.int .i64 0, .int .i64 0] 59) := by
    rw [hb.block _ (by simp; omega), Below.heap_alloc _ _ _ (by simp)]
    exact heap_alloc_new w0 _
  refine ⟨fun j => by unfold World.frozen?; rw [h]; rfl, ?_, ?_⟩ <;> (rw [cell_of_row w1 _ _ _ 59 (0, 0) h]; rfl)
set_option maxRecDepth 100000 in
set_option maxHeartbeats 2000000 in
theorem add42 (a b : Int × Int) (w : World) (ha : okW a) (hb : okW b) : Calls Try.prog 42 #[.agg #[.int .i64 a.1, .int .i64 a.2], .agg #[.int .i64 b.1, .int .i64 b.2]] w fun e w' => e = .returned (wV (addW a b)) ∧ Below w.heap.size w w' := by
  obtain ⟨a1, a2⟩ := a
  obtain ⟨b1, b2⟩ := b
  unfold okW at ha hb
  simp only at ha hb
  obtain ⟨⟨x1, x2⟩, x3, x4⟩ := ha
  obtain ⟨⟨y1, y2⟩, y3, y4⟩ := hb
  unfold addW
  simp only
  by_cases h1 : a2 < 0
  · rw [if_pos (.inl h1)]
    go_enter Try.func42, Try.ntmps42
    go_wp2_with (go_at_call 53; refine (capped53 _ _ _).mono ?_; rintro e w1 ⟨rfl, hb⟩; obtain ⟨rf, r0, r1⟩ := res59 (g := w.heap.size + 1 + 1) hb (by simp); have HB1 := Lib.hid (show Below w.heap.size w w1 from Below.trans (by (repeat' (first | (with_reducible exact Below.refl _ _) | (with_reducible assumption) | (with_reducible refine Below.setCell ?_ (by simp <;> omega) _) | (with_reducible refine Below.alloc ?_ (by simp <;> omega) _) | (with_reducible refine Below.drew ?_)))) (hb.mono (by simp <;> omega))); clear hb; unfold wV)
    (try simp only [Exit.inBlock, Exit.then])
    refine bodyPost_ret (v := wV (capW (a1 + b1, -1))) ?_ rfl ⟨rfl, by have hb := HB1.out; (repeat' (first | (with_reducible exact Below.refl _ _) | (with_reducible assumption) | (with_reducible refine Below.setCell ?_ (by simp <;> omega) _) | (with_reducible refine Below.alloc ?_ (by simp <;> omega) _) | (with_reducible refine Below.drew ?_)))⟩
    rw [results_cell_one rfl]
    unfold wV
    go_simp
  · by_cases h2 : b2 < 0
    · rw [if_pos (.inr h2)]
      go_enter Try.func42, Try.ntmps42
      go_wp2_with (go_at_call 53; refine (capped53 _ _ _).mono ?_; rintro e w1 ⟨rfl, hb⟩; obtain ⟨rf, r0, r1⟩ := res59 (g := w.heap.size + 1 + 1) hb (by simp); have HB1 := Lib.hid (show Below w.heap.size w w1 from Below.trans (by (repeat' (first | (with_reducible exact Below.refl _ _) | (with_reducible assumption) | (with_reducible refine Below.setCell ?_ (by simp <;> omega) _) | (with_reducible refine Below.alloc ?_ (by simp <;> omega) _) | (with_reducible refine Below.drew ?_)))) (hb.mono (by simp <;> omega))); clear hb; unfold wV)
      (try simp only [Exit.inBlock, Exit.then])
      refine bodyPost_ret (v := wV (capW (a1 + b1, -1))) ?_ rfl ⟨rfl, by have hb := HB1.out; (repeat' (first | (with_reducible exact Below.refl _ _) | (with_reducible assumption) | (with_reducible refine Below.setCell ?_ (by simp <;> omega) _) | (with_reducible refine Below.alloc ?_ (by simp <;> omega) _) | (with_reducible refine Below.drew ?_)))⟩
      rw [results_cell_one rfl]
      unfold wV
      go_simp
    · rw [if_neg (by omega)]
      go_enter Try.func42, Try.ntmps42
      go_wp2_with (go_at_call 53; refine (capped53 _ _ _).mono ?_; rintro e w1 ⟨rfl, hb⟩; obtain ⟨rf, r0, r1⟩ := res59 (g := w.heap.size + 1 + 1) hb (by simp); have HB1 := Lib.hid (show Below w.heap.size w w1 from Below.trans (by (repeat' (first | (with_reducible exact Below.refl _ _) | (with_reducible assumption) | (with_reducible refine Below.setCell ?_ (by simp <;> omega) _) | (with_reducible refine Below.alloc ?_ (by simp <;> omega) _) | (with_reducible refine Below.drew ?_)))) (hb.mono (by simp <;> omega))); clear hb; unfold wV)
      (try simp only [Exit.inBlock, Exit.then])
      refine bodyPost_ret (v := wV (capW (a1 + b1, a2 + b2))) ?_ rfl ⟨rfl, by have hb := HB1.out; (repeat' (first | (with_reducible exact Below.refl _ _) | (with_reducible assumption) | (with_reducible refine Below.setCell ?_ (by simp <;> omega) _) | (with_reducible refine Below.alloc ?_ (by simp <;> omega) _) | (with_reducible refine Below.drew ?_)))⟩
      rw [results_cell_one rfl]
      unfold wV
      go_simp
theorem mul_bounds {a1 a2 l m : Int} (ha : okW (a1, a2)) (l0 : 0 ≤ l) (l1 : l ≤ 100) (m0 : -1 ≤ m) (m1 : m ≤ 100) : (0 ≤ a1 * l ∧ a1 * l ≤ 100000000) ∧ -100000000 ≤ a2 * m ∧ a2 * m ≤ 100000000 := by
  unfold okW at ha
  simp only at ha
  obtain ⟨⟨x1, x2⟩, x3, x4⟩ := ha
  refine ⟨⟨Int.mul_nonneg x1 l0, Int.le_trans (Int.mul_le_mul x2 l1 l0 (by decide)) (by decide)⟩, ?_⟩
  by_cases h1 : a2 = -1
  · subst h1; omega
  · by_cases h2 : m = -1
    · subst h2; omega
    · have h3 := Int.mul_nonneg (show 0 ≤ a2 by omega) (show 0 ≤ m by omega)
      have h4 : a2 * m ≤ 1000000 * 100 := Int.mul_le_mul x4 m1 (by omega) (by decide)
      omega
set_option maxRecDepth 100000 in
set_option maxHeartbeats 2000000 in
theorem times41 (a : Int × Int) (l m : Int) (w : World) (ha : okW a) (l0 : 0 ≤ l) (l1 : l ≤ 100) (m0 : -1 ≤ m) (m1 : m ≤ 100) : Calls Try.prog 41 #[.agg #[.int .i64 a.1, .int .i64 a.2], .int .i64 l, .int .i64 m] w fun e w' => e = .returned (wV (timesW a l m)) ∧ Below w.heap.size w w' := by
  obtain ⟨a1, a2⟩ := a
  obtain ⟨⟨b1, b2⟩, b3, b4⟩ := mul_bounds ha l0 l1 m0 m1
  have HT := Lib.hid (show timesW (a1, a2) l m = capW (a1 * l, if (a2 < 0 ∧ m ≠ 0) ∨ (m < 0 ∧ a2 ≠ 0) then -1 else a2 * m) from rfl)
  rw [HT.out]
  clear HT
  unfold okW at ha
  simp only at ha
  obtain ⟨⟨x1, x2⟩, x3, x4⟩ := ha
  simp only
  by_cases h1 : a2 < 0
  · by_cases h2 : m = 0
    · rw [if_neg (by omega)]
      go_enter Try.func41, Try.ntmps41
      go_wp2_with (go_at_call 53; refine (capped53 _ _ _).mono ?_; rintro e w1 ⟨rfl, hb⟩; obtain ⟨rf, r0, r1⟩ := res59 (g := w.heap.size + 1) hb (by simp); have HB1 := Lib.hid (show Below w.heap.size w w1 from Below.trans (by (repeat' (first | (with_reducible exact Below.refl _ _) | (with_reducible assumption) | (with_reducible refine Below.setCell ?_ (by simp <;> omega) _) | (with_reducible refine Below.alloc ?_ (by simp <;> omega) _) | (with_reducible refine Below.drew ?_)))) (hb.mono (by simp <;> omega))); clear hb; unfold wV)
      (try simp only [Exit.inBlock, Exit.then])
      refine bodyPost_ret (v := wV (capW (a1 * l, a2 * m))) ?_ rfl ⟨rfl, by have hb := HB1.out; (repeat' (first | (with_reducible exact Below.refl _ _) | (with_reducible assumption) | (with_reducible refine Below.setCell ?_ (by simp <;> omega) _) | (with_reducible refine Below.alloc ?_ (by simp <;> omega) _) | (with_reducible refine Below.drew ?_)))⟩
      rw [results_cell_one rfl]
      unfold wV
      go_simp
    · rw [if_pos (by omega)]
      have hmb : (m != 0) = true := by simp [h2]
      go_enter Try.func41, Try.ntmps41
      go_wp2_with (go_at_call 53; refine (capped53 _ _ _).mono ?_; rintro e w1 ⟨rfl, hb⟩; obtain ⟨rf, r0, r1⟩ := res59 (g := w.heap.size + 1) hb (by simp); have HB1 := Lib.hid (show Below w.heap.size w w1 from Below.trans (by (repeat' (first | (with_reducible exact Below.refl _ _) | (with_reducible assumption) | (with_reducible refine Below.setCell ?_ (by simp <;> omega) _) | (with_reducible refine Below.alloc ?_ (by simp <;> omega) _) | (with_reducible refine Below.drew ?_)))) (hb.mono (by simp <;> omega))); clear hb; unfold wV)
      (try simp only [Exit.inBlock, Exit.then])
      refine bodyPost_ret (v := wV (capW (a1 * l, -1))) ?_ rfl ⟨rfl, by have hb := HB1.out; (repeat' (first | (with_reducible exact Below.refl _ _) | (with_reducible assumption) | (with_reducible refine Below.setCell ?_ (by simp <;> omega) _) | (with_reducible refine Below.alloc ?_ (by simp <;> omega) _) | (with_reducible refine Below.drew ?_)))⟩
      rw [results_cell_one rfl]
      unfold wV
      go_simp
  · by_cases h2 : m < 0
    · by_cases h3 : a2 = 0
      · rw [if_neg (by omega)]
        go_enter Try.func41, Try.ntmps41
        go_wp2_with (go_at_call 53; refine (capped53 _ _ _).mono ?_; rintro e w1 ⟨rfl, hb⟩; obtain ⟨rf, r0, r1⟩ := res59 (g := w.heap.size + 1) hb (by simp); have HB1 := Lib.hid (show Below w.heap.size w w1 from Below.trans (by (repeat' (first | (with_reducible exact Below.refl _ _) | (with_reducible assumption) | (with_reducible refine Below.setCell ?_ (by simp <;> omega) _) | (with_reducible refine Below.alloc ?_ (by simp <;> omega) _) | (with_reducible refine Below.drew ?_)))) (hb.mono (by simp <;> omega))); clear hb; unfold wV)
        (try simp only [Exit.inBlock, Exit.then])
        refine bodyPost_ret (v := wV (capW (a1 * l, a2 * m))) ?_ rfl ⟨rfl, by have hb := HB1.out; (repeat' (first | (with_reducible exact Below.refl _ _) | (with_reducible assumption) | (with_reducible refine Below.setCell ?_ (by simp <;> omega) _) | (with_reducible refine Below.alloc ?_ (by simp <;> omega) _) | (with_reducible refine Below.drew ?_)))⟩
        rw [results_cell_one rfl]
        unfold wV
        go_simp
      · rw [if_pos (by omega)]
        have hmb : (a2 != 0) = true := by simp [h3]
        go_enter Try.func41, Try.ntmps41
        go_wp2_with (go_at_call 53; refine (capped53 _ _ _).mono ?_; rintro e w1 ⟨rfl, hb⟩; obtain ⟨rf, r0, r1⟩ := res59 (g := w.heap.size + 1) hb (by simp); have HB1 := Lib.hid (show Below w.heap.size w w1 from Below.trans (by (repeat' (first | (with_reducible exact Below.refl _ _) | (with_reducible assumption) | (with_reducible refine Below.setCell ?_ (by simp <;> omega) _) | (with_reducible refine Below.alloc ?_ (by simp <;> omega) _) | (with_reducible refine Below.drew ?_)))) (hb.mono (by simp <;> omega))); clear hb; unfold wV)
        (try simp only [Exit.inBlock, Exit.then])
        refine bodyPost_ret (v := wV (capW (a1 * l, -1))) ?_ rfl ⟨rfl, by have hb := HB1.out; (repeat' (first | (with_reducible exact Below.refl _ _) | (with_reducible assumption) | (with_reducible refine Below.setCell ?_ (by simp <;> omega) _) | (with_reducible refine Below.alloc ?_ (by simp <;> omega) _) | (with_reducible refine Below.drew ?_)))⟩
        rw [results_cell_one rfl]
        unfold wV
        go_simp
    · rw [if_neg (by omega)]
      go_enter Try.func41, Try.ntmps41
      go_wp2_with (go_at_call 53; refine (capped53 _ _ _).mono ?_; rintro e w1 ⟨rfl, hb⟩; obtain ⟨rf, r0, r1⟩ := res59 (g := w.heap.size + 1) hb (by simp); have HB1 := Lib.hid (show Below w.heap.size w w1 from Below.trans (by (repeat' (first | (with_reducible exact Below.refl _ _) | (with_reducible assumption) | (with_reducible refine Below.setCell ?_ (by simp <;> omega) _) | (with_reducible refine Below.alloc ?_ (by simp <;> omega) _) | (with_reducible refine Below.drew ?_)))) (hb.mono (by simp <;> omega))); clear hb; unfold wV)
      (try simp only [Exit.inBlock, Exit.then])
      refine bodyPost_ret (v := wV (capW (a1 * l, a2 * m))) ?_ rfl ⟨rfl, by have hb := HB1.out; (repeat' (first | (with_reducible exact Below.refl _ _) | (with_reducible assumption) | (with_reducible refine Below.setCell ?_ (by simp <;> omega) _) | (with_reducible refine Below.alloc ?_ (by simp <;> omega) _) | (with_reducible refine Below.drew ?_)))⟩
      rw [results_cell_one rfl]
      unfold wV
      go_simp
set_option maxRecDepth 100000 in
set_option maxHeartbeats 2000000 in
theorem either43 (a b : Int × Int) (w : World) : Calls Try.prog 43 #[.agg #[.int .i64 a.1, .int .i64 a.2], .agg #[.int .i64 b.1, .int .i64 b.2]] w fun e w' => e = .returned (wV (eitherW a b)) ∧ Below w.heap.size w w' := by
  obtain ⟨a1, a2⟩ := a
  obtain ⟨b1, b2⟩ := b
  unfold wV eitherW
  simp only
  by_cases h1 : b1 < a1
  · have e1 : min a1 b1 = b1 := by omega
    rw [e1]
    by_cases h2 : a2 < 0
    · rw [if_pos (.inl h2)]
      go_enter Try.func43, Try.ntmps43
      go_wp2
      all_goals
        (try simp only [Exit.inBlock, Exit.then])
        refine bodyPost_ret (v := .agg #[.int .i64 b1, .int .i64 (-1)]) ?_ rfl ⟨by first | rfl | rw [e1], by (repeat' (first | (with_reducible exact Below.refl _ _) | (with_reducible assumption) | (with_reducible refine Below.setCell ?_ (by simp <;> omega) _) | (with_reducible refine Below.alloc ?_ (by simp <;> omega) _) | (with_reducible refine Below.drew ?_)))⟩
        rw [results_cell_one rfl]
        go_simp
    · by_cases h3 : b2 < 0
      · rw [if_pos (.inr h3)]
        go_enter Try.func43, Try.ntmps43
        go_wp2
        all_goals
          (try simp only [Exit.inBlock, Exit.then])
          refine bodyPost_ret (v := .agg #[.int .i64 b1, .int .i64 (-1)]) ?_ rfl ⟨by first | rfl | rw [e1], by (repeat' (first | (with_reducible exact Below.refl _ _) | (with_reducible assumption) | (with_reducible refine Below.setCell ?_ (by simp <;> omega) _) | (with_reducible refine Below.alloc ?_ (by simp <;> omega) _) | (with_reducible refine Below.drew ?_)))⟩
          rw [results_cell_one rfl]
          go_simp
      · rw [if_neg (by omega)]
        by_cases h4 : a2 < b2
        · rw [show max a2 b2 = b2 by omega]
          go_enter Try.func43, Try.ntmps43
          go_wp2
          all_goals
            (try simp only [Exit.inBlock, Exit.then])
            refine bodyPost_ret (v := .agg #[.int .i64 b1, .int .i64 b2]) ?_ rfl ⟨by first | rfl | rw [e1], by (repeat' (first | (with_reducible exact Below.refl _ _) | (with_reducible assumption) | (with_reducible refine Below.setCell ?_ (by simp <;> omega) _) | (with_reducible refine Below.alloc ?_ (by simp <;> omega) _) | (with_reducible refine Below.drew ?_)))⟩
            rw [results_cell_one rfl]
            go_simp
        · rw [show max a2 b2 = a2 by omega]
          go_enter Try.func43, Try.ntmps43
          go_wp2
          all_goals
            (try simp only [Exit.inBlock, Exit.then])
            refine bodyPost_ret (v := .agg #[.int .i64 b1, .int .i64 a2]) ?_ rfl ⟨by first | rfl | rw [e1], by (repeat' (first | (with_reducible exact Below.refl _ _) | (with_reducible assumption) | (with_reducible refine Below.setCell ?_ (by simp <;> omega) _) | (with_reducible refine Below.alloc ?_ (by simp <;> omega) _) | (with_reducible refine Below.drew ?_)))⟩
            rw [results_cell_one rfl]
            go_simp
  · have e1 : min a1 b1 = a1 := by omega
    rw [e1]
    by_cases h2 : a2 < 0
    · rw [if_pos (.inl h2)]
      go_enter Try.func43, Try.ntmps43
      go_wp2
      all_goals
        (try simp only [Exit.inBlock, Exit.then])
        refine bodyPost_ret (v := .agg #[.int .i64 a1, .int .i64 (-1)]) ?_ rfl ⟨by first | rfl | rw [e1], by (repeat' (first | (with_reducible exact Below.refl _ _) | (with_reducible assumption) | (with_reducible refine Below.setCell ?_ (by simp <;> omega) _) | (with_reducible refine Below.alloc ?_ (by simp <;> omega) _) | (with_reducible refine Below.drew ?_)))⟩
        rw [results_cell_one rfl]
        go_simp
    · by_cases h3 : b2 < 0
      · rw [if_pos (.inr h3)]
        go_enter Try.func43, Try.ntmps43
        go_wp2
        all_goals
          (try simp only [Exit.inBlock, Exit.then])
          refine bodyPost_ret (v := .agg #[.int .i64 a1, .int .i64 (-1)]) ?_ rfl ⟨by first | rfl | rw [e1], by (repeat' (first | (with_reducible exact Below.refl _ _) | (with_reducible assumption) | (with_reducible refine Below.setCell ?_ (by simp <;> omega) _) | (with_reducible refine Below.alloc ?_ (by simp <;> omega) _) | (with_reducible refine Below.drew ?_)))⟩
          rw [results_cell_one rfl]
          go_simp
      · rw [if_neg (by omega)]
        by_cases h4 : a2 < b2
        · rw [show max a2 b2 = b2 by omega]
          go_enter Try.func43, Try.ntmps43
          go_wp2
          all_goals
            (try simp only [Exit.inBlock, Exit.then])
            refine bodyPost_ret (v := .agg #[.int .i64 a1, .int .i64 b2]) ?_ rfl ⟨by first | rfl | rw [e1], by (repeat' (first | (with_reducible exact Below.refl _ _) | (with_reducible assumption) | (with_reducible refine Below.setCell ?_ (by simp <;> omega) _) | (with_reducible refine Below.alloc ?_ (by simp <;> omega) _) | (with_reducible refine Below.drew ?_)))⟩
            rw [results_cell_one rfl]
            go_simp
        · rw [show max a2 b2 = a2 by omega]
          go_enter Try.func43, Try.ntmps43
          go_wp2
          all_goals
            (try simp only [Exit.inBlock, Exit.then])
            refine bodyPost_ret (v := .agg #[.int .i64 a1, .int .i64 a2]) ?_ rfl ⟨by first | rfl | rw [e1], by (repeat' (first | (with_reducible exact Below.refl _ _) | (with_reducible assumption) | (with_reducible refine Below.setCell ?_ (by simp <;> omega) _) | (with_reducible refine Below.alloc ?_ (by simp <;> omega) _) | (with_reducible refine Below.drew ?_)))⟩
            rw [results_cell_one rfl]
            go_simp
end Go.Proofs.Ytbekjfoefjnidaa
