/- slices.Sort and slices.Compact at ints: the kit's contracts, in the words of rows that the call owns. -/
import Derived.Test.YtehlijnhhbdbhaaIntLay
import Derived.Test.YtehlijnhhbdbhaaSetQ
import Derived.Test.YtehlijnhhbdbhaaFoldA
import Derived.Lib.OwnBridge
namespace Go.Proofs.Ytehlijnhhbdbhaa
open Go.RowKit Go.Sort Go.Shelf Go.Lib
set_option linter.unusedVariables false
def srt (l : List Int) : List Int := l.mergeSort fun x y => decide (x ≤ y)
theorem srt_perm (l : List Int) : (srt l).Perm l := List.mergeSort_perm _ _
theorem srt_len (l : List Int) : (srt l).length = l.length := (srt_perm l).length_eq
theorem srt_sorted (l : List Int) : (srt l).Pairwise fun x y => x ≤ y := by
  have := List.pairwise_mergeSort (le := fun (x y : Int) => decide (x ≤ y)) (fun a b c h1 h2 => by simp at *; omega) (fun a b => by simp; omega) l
  exact this.imp fun h => of_decide_eq_true h
theorem own_grow {w : World} {base n size : Nat} {e : TypeId} {v : Value} {xs : List Value} (h : w.ownsRow base e size v n xs) (os : Array Obj) : (grow w os).ownsRow base e size v n xs :=
  own_below h (below_grow (Below.refl w.heap.size w) (Nat.le_refl _) os) (Nat.le_refl _)
theorem sort139 (l : List Int) (A : Option Addr) (n c base : Nat) (w : World) (hn : n ≤ 1000000) (hown : w.ownsRow base 3 1 (.slice A n c) n (ints l)) (hbase : base ≤ w.heap.size) :
    Calls Try.prog 139 #[.slice A n c] w fun e w' => e = .returned (.tuple #[]) ∧ w'.ownsRow base 3 1 (.slice A n c) n (ints (srt l)) ∧ Below base w w' := by
  have hl := own_ints_len hown
  rcases Nat.eq_zero_or_pos n with h0 | h0
  · subst h0
    have hl0 : l = [] := List.eq_nil_of_length_eq_zero hl.symm
    subst hl0
    exact (Try.slices_Sort_int_none A c w).mono fun e w' ⟨he, hw⟩ => ⟨he, by rw [hw]; simpa [srt] using hown, by rw [hw]; exact Below.refl _ _⟩
  · obtain ⟨g, cap, hv, hg, hlt, hnc, hcm, hzl, hH⟩ := holds_of_ownsRow (enc := Value.int .i64) (zs := l) hown (fun e => by injection e with _ e2; omega)
    injection hv with e1 e2 e3
    subst e1 e3
    clear e2
    have hs := Try.slices_Sort_int g 0 c l w hH hlt (by omega)
    rw [hzl] at hs
    refine Calls.mono hs ?_
    rintro e w' ⟨he, q, os, rfl⟩
    refine ⟨he, own_grow ?_ os, below_grow (below_putRow (Below.refl base w) hg) hbase os⟩
    have := ownsRow_putRow (enc := Value.int .i64) (zs := l) (ys := srt l) (q := q) (k := n) hown (by rw [srt_len]; exact hzl) (Nat.le_refl _)
    rwa [List.take_of_length_le (by rw [srt_len]; omega)] at this
theorem compact_le (l : List Int) : (Lib.compact l).length ≤ l.length := by
  unfold Lib.compact compactUpTo
  rw [List.length_map]
  exact Nat.le_trans (List.length_filter_le _ _) (by simp)
theorem compact160 (l : List Int) (A : Option Addr) (n c base : Nat) (w : World) (hn : n ≤ 1000000) (hown : w.ownsRow base 3 1 (.slice A n c) n (ints l)) (hbase : base ≤ w.heap.size) :
    Calls Try.prog 160 #[.slice A n c] w fun e w' => ∃ m, e = .returned (.slice A m c) ∧ w'.ownsRow base 3 1 (.slice A m c) m (ints (Lib.compact l)) ∧ Below base w w' := by
  have hl := own_ints_len hown
  rcases Nat.eq_zero_or_pos n with h0 | h0
  · subst h0
    have hl0 : l = [] := List.eq_nil_of_length_eq_zero hl.symm
    subst hl0
    exact (Try.slices_Compact_int_empty A c w).mono fun e w' ⟨he, hw⟩ => ⟨0, he, by rw [hw]; exact hown, by rw [hw]; exact Below.refl _ _⟩
  · obtain ⟨g, cap, hv, hg, hlt, hnc, hcm, hzl, hH⟩ := holds_of_ownsRow (enc := Value.int .i64) (zs := l) hown (fun e => by injection e with _ e2; omega)
    injection hv with e1 e2 e3
    subst e1 e3
    clear e2
    have hs := Try.slices_Compact_int g 0 c l w hH (by omega) (by omega)
    rw [hzl] at hs
    refine Calls.mono hs ?_
    rintro e w' ⟨he, q, rfl⟩
    have hle := compact_le l
    refine ⟨(Lib.compact l).length, he, ?_, below_putRow (Below.refl base w) hg⟩
    have := ownsRow_putRow (enc := Value.int .i64) (zs := l) (ys := Lib.compact l ++ List.replicate (n - (Lib.compact l).length) 0) (q := q) (k := (Lib.compact l).length) hown (by simp; omega) (by omega)
    rw [List.take_left' rfl] at this
    exact this
end Go.Proofs.Ytehlijnhhbdbhaa
