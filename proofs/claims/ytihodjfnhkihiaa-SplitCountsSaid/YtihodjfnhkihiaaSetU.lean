/- setIs and setBegun of the laws, walked. -/
import Derived.Test.YtihodjfnhkihiaaSetT
namespace Go.Proofs.Ytihodjfnhkihiaa
open Go.RowKit
set_option linter.unusedVariables false
set_option maxRecDepth 100000 in
set_option maxHeartbeats 1000000 in
theorem setBegun29 (w : World) : Calls Try.prog 15 #[] w fun en w' => en = .returned (.bool true) ∧ Below w.heap.size w w' := by
  have hb0 : Below w.heap.size w (w.alloc (.cells #[.int .i64 5, .int .i64 9, .int .i64 1, .int .i64 4] 31)) := by go_grown
  have R := Lib.hid ((Rds.new w 2 2 #[.int .i64 5, .int .i64 9, .int .i64 1, .int .i64 4] 31 (rngs [(5, 9), (1, 4)]) rfl rfl).more (B' := (w.alloc (.cells #[.int .i64 5, .int .i64 9, .int .i64 1, .int .i64 4] 31)).heap.size) (by simp))
  go_enter Try.func15, Try.ntmps15
  go_wp2_with fail
  refine (make26 [(5, 9), (1, 4)] 0 rfl _ 2 2 _ (by decide) R.out).mono ?_
  rintro en w1 ⟨o1, A1, n1, c1, rfl, h1, h2, hown, hb1⟩
  have e1 : o1 = [(1, 9)] := by
    refine IsSet.eq (h1 rfl).1 (g := mem [(1, 9)]) ⟨⟨by decide, .cons (by simp) .nil⟩, fun p => Iff.rfl⟩ ?_
    intro p
    simp only [mem_cons, mem_nil, or_false]
    omega
  subst e1
  clear h1 h2
  have hn1 : n1 = 1 := own_rngs_len hown
  subst hn1
  obtain ⟨_, _, hv1, q1, q2⟩ := own_slice hown
  injection hv1 with x1 x2 x3
  subst x1 x3
  clear x2
  have hbb := hb0.trans (hb1.mono (by simp))
  go_wp2_with fail
  refine (not31 [(1, 9)] A1 1 c1 w1 q1 q2 (Rds.of_own hown)).mono ?_
  rintro en w2 ⟨o0, h0, o2, A2, n2, c2, rfl, h1, h2, hown2, hb2⟩
  have hk : chk [(1, 9)] = 0 := by decide
  rw [hk] at h0 h1 h2
  have hX : ∀ o : List (Int × Int), (IsSet o fun p => 0 ≤ p ∧ p ≤ 1114111 ∧ ¬ mem [(1, 9)] p) → o = [(0, 0), (10, 1114111)] := by
    intro o ho
    refine IsSet.eq ho (g := mem [(0, 0), (10, 1114111)]) ⟨⟨by decide, .cons (by simp) (.cons (by simp) .nil)⟩, fun p => Iff.rfl⟩ ?_
    intro p
    simp only [mem_cons, mem_nil, or_false]
    omega
  have e0 := hX o0 (h0 rfl).1
  subst e0
  have e2 := hX o2 (h1 rfl).1
  subst e2
  rw [show (if chk [(1, 9)] = 0 then if 400 < [((0 : Int), (0 : Int)), (10, 1114111)].length then (2 : Int) else 0 else chk [(1, 9)]) = 0 from rfl]
  clear h0 h1 h2 hX hk
  have hn2 : n2 = 2 := own_rngs_len hown2
  subst hn2
  obtain ⟨b3, o3, hl3, hA3, hb3, hc3, hd3⟩ := (Rds.of_own hown2).rng_at (k := 0) (by decide)
  subst hA3
  have hsz := hbb.size
  have hf := hbb.trans (hb2.mono (by have := hb1.size; simp at this; omega))
  simp at hc3 hd3
  go_wp2_with fail
  go_ret
  exact ⟨rfl, hf⟩
end Go.Proofs.Ytihodjfnhkihiaa
