/- Check of a set; worlds one behind the other. -/
import Derived.Test.YtpdcbddofekbcaaGreatGC
import Derived.Test.YtpdcbddofekbcaaGreatSetP
import Derived.Deep.RegionHeld3
import Derived.Handy
namespace Go.Proofs.YtpdcbddofekbcaaGreat
open Go.RowKit
set_option linter.unusedVariables false
theorem Rds.next {w w' : World} {size n : Nat} {A : Option Addr} {xs : List Value} (h : Rds w w.heap.size size A n xs) (hb : Below w.heap.size w w') : Rds w' w'.heap.size size A n xs :=
  (h.below hb (Nat.le_refl _)).more hb.size
theorem below_next {W w w' : World} (h : Below W.heap.size W w) (hb : Below w.heap.size w w') : Below W.heap.size W w' := h.trans (hb.mono h.size)
theorem Sls.more {w : World} {X Y : Nat} {vs : List Value} {ls : List (List (Int × Int))} (h : Sls w X vs ls) (hX : X ≤ Y) : Sls w Y vs ls :=
  ⟨h.1, fun k h1 h2 => by obtain ⟨A, n, c, e, a1, a2, a3⟩ := h.2 k h1 h2; exact ⟨A, n, c, e, a1, a2, a3.more hX⟩⟩
theorem sls_one {w : World} {X n c : Nat} {A : Option Addr} {a : List (Int × Int)} (hnc : n ≤ c) (hc : c ≤ maxLen) (h : Rds w X 2 A n (rngs a)) : Sls w X [.slice A n c] [a] :=
  ⟨rfl, fun k h1 h2 => by
    have hk : k = 0 := by simp at h1; exact h1
    subst hk
    exact ⟨A, n, c, rfl, hnc, hc, h⟩⟩
theorem Sls.at_ {w : World} {X : Nat} {vs : List Value} {ls : List (List (Int × Int))} (h : Sls w X vs ls) {k : Nat} (hk : k < vs.length) (hl : k < ls.length) :
    ∃ A n c, vs[k]? = some (.slice A n c) ∧ n ≤ c ∧ c ≤ maxLen ∧ n = ls[k].length ∧ Rds w X 2 A n (rngs ls[k]) := by
  obtain ⟨A, n, c, e, h1, h2, h3⟩ := h.2 k hk hl
  exact ⟨A, n, c, by rw [List.getElem?_eq_getElem hk, e], h1, h2, h3.rngs_len.symm, h3⟩
theorem chkL_one (a : List (Int × Int)) : chkL [a] = chk a := by
  simp only [chkL]; split <;> simp_all
set_option maxHeartbeats 1000000 in
theorem check18 (a : List (Int × Int)) (A : Option Addr) (n c : Nat) (w : World) (hnc : n ≤ c) (hc : c ≤ maxLen) (ha : Rds w w.heap.size 2 A n (rngs a)) :
    Calls Tryz.prog 27 #[.slice A n c] w fun e w' => e = .returned (.int .i64 (chk a)) ∧ Below w.heap.size w w' := by
  have HA := Lib.hid ha.rngs_len
  go_enter Tryz.func27, Tryz.ntmps27
  go_wp2_with fail
  have hb0 : Below w.heap.size w (w.alloc (.cells #[.slice A n c] 22)) := by go_grown
  refine (check80 [a] [.slice A n c] _ _ _ _ (by decide) ((Rds.new w 1 1 #[.slice A n c] 22 [.slice A n c] rfl rfl).more (by simp)) ((sls_one hnc hc ha).below hb0 (Nat.le_refl _) |>.more (by simp))).mono ?_
  rintro e w1 ⟨rfl, hb⟩
  go_wp2
  go_ret
  exact ⟨ret_int (chkL_one a), hb0.trans (hb.mono (by simp))⟩
end Go.Proofs.YtpdcbddofekbcaaGreat
