/-
  Clone at ranges, what the sort compares by, and done: walked.
-/
import Derived.Test.YtihodjfnhkihiaaSetP
import Derived.Test.YtihodjfnhkihiaaSetC
import Derived.Test.YtihodjfnhkihiaaSetJ
import Derived.Sort.Grow
namespace Go.Proofs.Ytihodjfnhkihiaa
open Go.RowKit
set_option linter.unusedVariables false
set_option maxHeartbeats 1000000 in
theorem clone117 (l : List (Int × Int)) (A : Option Addr) (n c : Nat) (w : World) (hn : n ≤ 1000000) (ha : Rds w w.heap.size 2 A n (rngs l)) :
    Calls Try.prog 70 #[.slice A n c] w (OwnRngs w l) := by
  have hq := fun (A : Option Addr) (n c : Nat) (W : World) => Lib.run_eql_slice_nil (P := Try.prog) W 22 31 A n c 0 0 Try.underlying22
  cases A with
  | none =>
    have hn0 : n = 0 := by
      rcases Nat.eq_zero_or_pos n with h | h
      · exact h
      · obtain ⟨_, _, h, _⟩ := ha.2 h; cases h
    subst hn0
    have hl : l = [] := List.eq_nil_of_length_eq_zero ha.rngs_len
    subst hl
    go_enter Try.func70, Try.ntmps70
    go_wp2
    go_ret
    exact ownRngs_of rfl (World.ownsRow_nil _ _ _ _) (Below.refl _ _)
  | some ad =>
    have R := Lib.hid ((ha.alloc (Nat.le_refl _) (.cells #[] 31)).more (B' := w.heap.size + 1) (by omega))
    have hown : (w.alloc (.cells #[] 31)).ownsRow w.heap.size 31 2 (.slice (some ⟨w.heap.size, 0, none⟩) 0 0) 0 (rngs []) := own_new w w.heap.size 31 2 0 #[] (Nat.le_refl _) rfl (by decide)
    have HOWN := Lib.hid hown
    clear hown
    go_enter Try.func70, Try.ntmps70
    go_wp2_with (at_builtin; refine app_rngs (.tmp 5) (.tmp 6) (base := w.heap.size) (xs := []) (n := 0) (by exact HOWN.out) R.out (by omega) (by simp) rfl rfl rfl rfl ?_; intro v3 w3 hown3 hg3 hat3)
    go_ret
    exact ownRngs_of rfl hown3 (((Below.refl _ _).alloc (Nat.le_refl _) _).grown hg3 (by simp) (fun g hg => Nat.le_of_eq (Option.some.inj hg)))
open Go.Sort in
set_option maxHeartbeats 1000000 in
theorem cmp119 (x y u v : Int) (w : World) (hx : 0 ≤ x ∧ x ≤ 1114111) (hu : 0 ≤ u ∧ u ≤ 1114111) :
    Calls Try.prog 72 #[.agg #[.int .i64 x, .int .i64 y], .agg #[.int .i64 u, .int .i64 v]] w fun e w' => e = .returned (.int .i64 (x - u)) ∧ ∃ q os', w' = grow (w.drewN q) os' := by
  obtain ⟨x0, x1⟩ := hx
  obtain ⟨u0, u1⟩ := hu
  go_enter Try.func72, Try.ntmps72
  go_wp2
  go_ret
  exact ⟨rfl, 0, _, by rw [alloc_eq_grow, alloc_eq_grow, grow_grow]; rfl⟩
def RR : Type := { r : Int × Int // okR r = true }
instance : Inhabited RR := ⟨⟨(0, 0), rfl⟩⟩
def encRR (r : RR) : List Value := [.int .i64 r.1.1, .int .i64 r.1.2]
def cfRR (a b : RR) : Int := a.1.1 - b.1.1
set_option maxHeartbeats 1000000 in
theorem done_many (A : Option Addr) (n c : Nat) (w : World) (h : 400 < n) : Calls Try.prog 54 #[.slice A n c] w fun e w' => e = .returned (.tuple #[.slice none 0 0, .int .i64 2]) ∧ w = w' := by
  have hb : (400 : Int) < (n : Int) := by omega
  go_enter Try.func54, Try.ntmps54
  go_wp2
  go_ret2
  exact ⟨rfl, rfl⟩
set_option maxHeartbeats 1000000 in
theorem done_ok (A : Option Addr) (n c : Nat) (w : World) (h : n ≤ 400) : Calls Try.prog 54 #[.slice A n c] w fun e w' => e = .returned (.tuple #[.slice A n c, .int .i64 0]) ∧ w = w' := by
  have hb : (n : Int) ≤ 400 := by omega
  go_enter Try.func54, Try.ntmps54
  go_wp2
  go_ret2
  exact ⟨rfl, rfl⟩
end Go.Proofs.Ytihodjfnhkihiaa
