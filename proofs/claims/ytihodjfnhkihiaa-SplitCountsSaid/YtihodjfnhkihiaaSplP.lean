/- Pairs of roads, put behind one another and pushed: the step, plain. No condition. -/
import Derived.Test.YtihodjfnhkihiaaSplN
namespace Go.Proofs.Ytihodjfnhkihiaa
open Go.RowKit
set_option linter.unusedVariables false
/-- out while pairs are pushed; the roads of two callees stay where they are -/
def PJ (W1 w : World) (H1 H2 H3 H4 : Nat) (o : Value) (n : Nat) (vs : List Value) (ls : List (List (Int × Int))) : Prop :=
  w.ownsRow W1.heap.size 22 1 o n vs ∧ OwnSls w W1.heap.size vs ls ∧ Below W1.heap.size W1 w ∧ (∀ g, o.ownBlock = some g → (g < H1 ∨ H2 ≤ g) ∧ (g < H3 ∨ H4 ≤ g))
section
variable {W1 w w' w5 w6 : World} {H1 H2 H3 H4 n m : Nat} {o v3 v6 : Value} {vs : List Value} {ls : List (List (Int × Int))} {r : List (Int × Int)}
theorem PJ.below (h : PJ W1 w H1 H2 H3 H4 o n vs ls) (hb : Below w.heap.size w w') : PJ W1 w' H1 H2 H3 H4 o n vs ls :=
  ⟨own_below h.1 hb (Nat.le_refl _), h.2.1.below hb, h.2.2.1.trans (hb.mono h.2.2.1.size), h.2.2.2⟩
/-- a second callee's roads: behind all that lay -/
theorem PJ.shift (h : PJ W1 w H1 H2 H1 H2 o n vs ls) (hb : Below w.heap.size w w') : PJ W1 w' H1 H2 w.heap.size w'.heap.size o n vs ls := by
  have h' := h.below hb
  exact ⟨h'.1, h'.2.1, h'.2.2.1, fun g hg => ⟨(h.2.2.2 g hg).1, .inl (h.1.lt g hg).2⟩⟩
theorem PJ.back (h : PJ W1 w H1 H2 H3 H4 o n vs ls) : PJ W1 w H1 H2 H1 H2 o n vs ls := ⟨h.1, h.2.1, h.2.2.1, fun g hg => ⟨(h.2.2.2 g hg).1, (h.2.2.2 g hg).1⟩⟩
theorem PJ.val (h : PJ W1 w H1 H2 H3 H4 o n vs ls) : RoadsVal W1 w ls o := .of h.1 h.2.1 h.2.2.1
theorem PJ.count (h : PJ W1 w H1 H2 H3 H4 o n vs ls) : n = ls.length := own_count h.1 h.2.1
/-- out, and a callee's roads behind it -/
theorem PJ.of {A : Option Addr} {c : Nat} (h1 : w.ownsRow W1.heap.size 22 1 (.slice A n c) n vs) (h2 : OwnSls w W1.heap.size vs ls) (h3 : Below W1.heap.size W1 w) (hb : Below w.heap.size w w') : PJ W1 w' w.heap.size w'.heap.size w.heap.size w'.heap.size (.slice A n c) n vs ls :=
  ⟨own_below h1 hb (Nat.le_refl _), h2.below hb, h3.trans (hb.mono h3.size), fun g hg => ⟨.inl (h1.lt g hg).2, .inl (h1.lt g hg).2⟩⟩
/-- a new road is pushed -/
theorem PJ.push (h : PJ W1 w H1 H2 H3 H4 o n vs ls) (hb : Below w.heap.size w w5) (hr : w5.ownsRow w.heap.size 31 2 v3 m (rngs r)) (k2 : H2 ≤ w.heap.size) (k4 : H4 ≤ w.heap.size) (x : Obj)
    (hown : w6.ownsRow W1.heap.size 22 1 v6 (n + 1) (vs ++ [v3])) (hg : (w5.alloc x).grownBy w6 o.ownBlock) (hat : v6.ownBlock = o.ownBlock ∨ v6.ownBlock = some (w5.alloc x).heap.size) : PJ W1 w6 H1 H2 H3 H4 v6 (n + 1) (vs ++ [v3]) (ls ++ [r]) := by
  have h5 := h.below hb
  have hz := hb.size
  have hv := RoadsVal.push (w := W1) (W := w5.alloc x) (h5.1.alloc x) (h5.2.1.alloc x) (h5.2.2.1.alloc h5.2.2.1.size x) ((own_mono hr h.2.2.1.size).alloc x) hown hg (h.2.1.fresh hr)
  refine ⟨hown, ?_, ?_, fun g hv => ?_⟩
  · exact ((h5.2.1.alloc x).append (OwnSls.one ((own_mono hr h.2.2.1.size).alloc x)) (h.2.1.fresh hr)).kept (h5.1.alloc x) hg
  · exact grown_own (h5.2.2.1.alloc h5.2.2.1.size x) (h5.1.alloc x) hg (Nat.le_refl _) (by have := h5.2.2.1.size; simp; omega)
  · rcases hat with e | e
    · exact h.2.2.2 g (by rw [← e]; exact hv)
    · rw [e] at hv
      injection hv with hv
      have ez : (w5.alloc x).heap.size = w5.heap.size + 1 := by simp
      rw [ez] at hv
      exact ⟨.inr (by omega), .inr (by omega)⟩
/-- what else stays while it is pushed -/
theorem PJ.mid1 (h : PJ W1 w H1 H2 H3 H4 o n vs ls) (hb : Below w.heap.size w w5) (x : Obj) (hg : (w5.alloc x).grownBy w6 o.ownBlock) {A : Option Addr} {a c : Nat} {us : List Value} {ms : List (List (Int × Int))} (k : Mid w H1 H2 A a c us ms) : Mid w6 H1 H2 A a c us ms := by
  have k5 := k.below hb
  have ka : Mid (w5.alloc x) H1 H2 A a c us ms := ⟨k5.1.alloc x, k5.2.1.alloc x, k5.2.2.1, Nat.le_trans k5.2.2.2 (by simp)⟩
  exact ka.kept ((h.below hb).1.alloc x) hg fun g hg => (h.2.2.2 g hg).1
theorem PJ.mid2 (h : PJ W1 w H1 H2 H3 H4 o n vs ls) (hb : Below w.heap.size w w5) (x : Obj) (hg : (w5.alloc x).grownBy w6 o.ownBlock) {A : Option Addr} {a c : Nat} {us : List Value} {ms : List (List (Int × Int))} (k : Mid w H3 H4 A a c us ms) : Mid w6 H3 H4 A a c us ms := by
  have k5 := k.below hb
  have ka : Mid (w5.alloc x) H3 H4 A a c us ms := ⟨k5.1.alloc x, k5.2.1.alloc x, k5.2.2.1, Nat.le_trans k5.2.2.2 (by simp)⟩
  exact ka.kept ((h.below hb).1.alloc x) hg fun g hg => (h.2.2.2 g hg).2
theorem PJ.row (h : PJ W1 w H1 H2 H3 H4 o n vs ls) (hb : Below w.heap.size w w5) (x : Obj) (hg : (w5.alloc x).grownBy w6 o.ownBlock) {v : Value} {b a : Nat} {xs : List Value} (k : w.ownsRow b 31 2 v a xs) : w6.ownsRow b 31 2 v a xs := by
  have k5 := (own_below k hb (Nat.le_refl _)).alloc x
  exact own_kept k5 hg (own_ne_type ((h.below hb).1.alloc x) k5 (by decide))
theorem sls_two {v u : Value} {x y : List (Int × Int)} {a b k l : Nat} (hv : w.ownsRow a 31 2 v k (rngs x)) (hu : w.ownsRow b 31 2 u l (rngs y)) (z : Obj) : Sls (w.alloc z) (w.alloc z).heap.size [v, u] [x, y] := by
  refine ⟨rfl, fun i h1 h2 => ?_⟩
  obtain ⟨A, c, rfl, q1, q2⟩ := own_slice hv
  obtain ⟨B, d, rfl, q3, q4⟩ := own_slice hu
  have hi : i = 0 ∨ i = 1 := by simp at h1; omega
  rcases hi with rfl | rfl
  · exact ⟨A, k, c, rfl, q1, q2, Rds.of_own (hv.alloc z)⟩
  · exact ⟨B, l, d, rfl, q3, q4, Rds.of_own (hu.alloc z)⟩
end
end Go.Proofs.Ytihodjfnhkihiaa
