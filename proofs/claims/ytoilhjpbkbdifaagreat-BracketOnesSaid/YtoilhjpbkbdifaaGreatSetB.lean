/-
  Within of the reference and what it calls, walked.
-/
import Derived.Test.YtoilhjpbkbdifaaGreatBase
import Derived.Test.YtoilhjpbkbdifaaGreatSetA
namespace Go.Proofs.YtoilhjpbkbdifaaGreat
open Go.RowKit
set_option linter.unusedVariables false
theorem take_snoc' {α : Type} (l : List α) (k : Nat) (h : k < l.length) : l.take (k + 1) = l.take k ++ [l[k]] := by
  rw [List.take_succ_eq_append_getElem h]
theorem quiet_add_same {P : Program} {f : FuncId} {args : Array Value} {w : World} {a n : Nat} {v : Value}
    (h : Calls P f args (w.drewN (a + n)) fun e w' => e = .returned v ∧ w' = w.drewN (a + n)) :
    Calls P f args (w.drewN (a + n)) fun e w'' => e = .returned v ∧ ∃ m, w'' = w.drewN (a + m) :=
  h.mono fun _ _ ⟨he, hm⟩ => ⟨he, n, hm⟩
set_option maxHeartbeats 400000 in
theorem between_any (p a b : Int) (w : World) : Calls Tryz.prog 16 #[.int .i64 p, .int .i64 a, .int .i64 b] w fun e w' => e = .returned (.bool (decide (a ≤ p) && decide (p ≤ b))) ∧ w' = w := by
  go_enter Tryz.func16, Tryz.ntmps16
  go_wp2
  all_goals (go_ret; refine ⟨ret_bool ?_, rfl⟩; simp_all; try omega)
set_option maxHeartbeats 400000 in
theorem isPoint_any (p : Int) (w : World) : Calls Tryz.prog 23 #[.int .i64 p] w fun e w' => e = .returned (.bool (decide (0 ≤ p) && decide (p ≤ 1114111))) ∧ w' = w := by
  go_enter Tryz.func23, Tryz.ntmps23
  go_wp2
  all_goals (go_ret; refine ⟨ret_bool ?_, rfl⟩; simp_all; try omega)
theorem memB_at {a : List (Int × Int)} {p : Int} (k : Nat) (h : k < a.length) (hp : (decide (a[k].1 ≤ p) && decide (p ≤ a[k].2)) = true) : memB a p = true := by
  unfold memB; rw [List.any_eq_true]; exact ⟨a[k], List.getElem_mem h, hp⟩
theorem memB_none {a : List (Int × Int)} {p : Int} (h : memB (a.take a.length) p = false) : memB a p = false := by rwa [List.take_length] at h
theorem memB_snoc (a : List (Int × Int)) (r : Int × Int) (p : Int) : memB (a ++ [r]) p = (memB a p || (decide (r.1 ≤ p) && decide (p ≤ r.2))) := by simp [memB]
set_option maxHeartbeats 1000000 in
theorem within_any (a : List (Int × Int)) (p : Int) (A : Option Addr) (n c : Nat) (w : World) (B : Nat) (hn : n ≤ maxLen) (ha : Rds w B 2 A n (rngs a)) :
    Calls Tryz.prog 9 #[.slice A n c, .int .i64 p] w fun e w' => e = .returned (.bool (memB a p)) ∧ ∃ m, w' = w.drewN m := by
  have HL := Lib.hid ha.rngs_len
  unfold maxLen at hn
  go_enter Tryz.func9, Tryz.ntmps9
  go_wp2_with fail
  go_loopw [5] (fun i wr => ∃ k : Nat, k ≤ n ∧ i = .int .i64 k ∧ memB (a.take k) p = false ∧ ∃ m, wr = w.drewN m) (fun i _ => n - (intOf i).toNat)
  case atStart => exact ⟨0, Nat.zero_le _, rfl, by simp [memB], 0, rfl⟩
  case round =>
    obtain ⟨k, hk, rfl, hall, m, rfl⟩ := hrel
    have HALL := Lib.hid hall
    clear hall
    by_cases hlt : k < n
    · obtain ⟨b1, off1, hl1, hA, hb1, hc1, hc2⟩ := ha.rng_at hlt
      subst hA
      have HT := Lib.hid (take_snoc' a k hl1)
      have HM := Lib.hid (memB_at (p := p) k hl1)
      obtain ⟨r, hr⟩ : ∃ r, r = a[k] := ⟨_, rfl⟩
      rw [← hr] at hc1 hc2 HT HM
      clear hr
      obtain ⟨x, y⟩ := r
      simp only at hc1 hc2
      have i1 : (0 : Int) ≤ (k : Int) := by omega
      have i2 : (k : Int) < (n : Int) := by omega
      cases ht : (decide (x ≤ p) && decide (p ≤ y))
      · have H := Lib.hid ht
        clear ht
        go_wp2_with fail
        go_quiet ((go_at_call 16; (first | exact Calls.quiet_of_same (H.out ▸ between_any p x y _) | exact quiet_add_same (H.out ▸ between_any p x y _))))
        go_wp2
        go_roundw
        case rel => exact ⟨k + 1, by omega, by go_num, by rw [HT.out, memB_snoc, HALL.out, H.out]; rfl, _, rfl⟩
        case measure => simp [intOf]; omega
      · have H := Lib.hid ht
        clear ht
        go_wp2_with fail
        go_quiet ((go_at_call 16; (first | exact Calls.quiet_of_same (H.out ▸ between_any p x y _) | exact quiet_add_same (H.out ▸ between_any p x y _))))
        go_wp2
        go_ret
        exact ⟨ret_bool (HM.out H.out).symm, _, World.drewN_drewN ..⟩
    · obtain rfl : k = n := by omega
      go_wp2
      go_ret
      exact ⟨ret_bool (memB_none (by rw [HL.out]; exact HALL.out)).symm, m, rfl⟩
end Go.Proofs.YtoilhjpbkbdifaaGreat
