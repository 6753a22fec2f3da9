/- SetHas, walked. -/
import Derived.Test.YtehlijnhhbdbhaaSetOps
namespace Go.Proofs.Ytehlijnhhbdbhaa
open Go.RowKit
set_option linter.unusedVariables false
theorem within_b (a : List (Int × Int)) (p : Int) (A : Option Addr) (n c : Nat) (w : World) (hn : n ≤ maxLen) (ha : Rds w w.heap.size 2 A n (rngs a)) :
    Calls Try.prog 46 #[.slice A n c, .int .i64 p] w fun e w' => e = .returned (.bool (memB a p)) ∧ Below w.heap.size w w' :=
  (within_any a p A n c w _ hn ha).mono fun _ _ ⟨h1, q, h2⟩ => ⟨h1, by subst h2; exact below_q w q⟩
theorem countOf_b (a : List (Int × Int)) (A : Option Addr) (n c : Nat) (w : World) (hn : n ≤ 100000) (hok : ∀ r ∈ a, okR r = true) (ha : Rds w w.heap.size 2 A n (rngs a)) :
    Calls Try.prog 44 #[.slice A n c] w fun e w' => e = .returned (.int .i64 (countL a)) ∧ Below w.heap.size w w' :=
  (countOf_any a A n c w _ hn hok ha).mono fun _ _ ⟨h1, q, h2⟩ => ⟨h1, by subst h2; exact below_q w q⟩
theorem checkSet_b (a : List (Int × Int)) (A : Option Addr) (n c : Nat) (w : World) (hn : n ≤ maxLen) (ha : Rds w w.heap.size 2 A n (rngs a)) :
    Calls Try.prog 32 #[.slice A n c] w fun e w' => e = .returned (.int .i64 (chk a)) ∧ Below w.heap.size w w' :=
  (checkSet_any a A n c w _ hn ha).mono fun _ _ ⟨h1, q, h2⟩ => ⟨h1, by subst h2; exact below_q w q⟩
theorem isPoint_w (p : Int) (b : Bool) (w : World) (h : (decide (0 ≤ p) && decide (p ≤ 1114111)) = b) : Calls Try.prog 45 #[.int .i64 p] w fun e w' => e = .returned (.bool b) ∧ w = w' :=
  (isPoint_of p b w h).mono fun _ _ ⟨h1, h2⟩ => ⟨h1, h2.symm⟩
set_option maxRecDepth 100000 in
set_option maxHeartbeats 1000000 in
theorem lawHas (a : List (Int × Int)) (p : Int) (A : Option Addr) (n c : Nat) (w : World) (hnc : n ≤ c) (hc : c ≤ maxLen) (ha : Rds w w.heap.size 2 A n (rngs a)) :
    Calls Try.prog 10 #[.slice A n c, .int .i64 p] w fun e w' => e = .returned (.bool true) ∧ Below w.heap.size w w' := by
  have HA := Lib.hid ha.rngs_len
  have C1 := Lib.hid (fun w' ha => has42 a p A n c w' hnc hc ha)
  have C2 := Lib.hid (fun w' ha => count43 a A n c w' hnc hc ha)
  have C3 := Lib.hid (fun w' ha => checkSet_b a A n c w' (by omega) ha)
  by_cases h0 : chk a = 0
  · obtain ⟨hk, hcan⟩ := (chk_ok a).1 h0
    rw [HA.out] at hk
    have HOK := Lib.hid hcan.1
    have HCN := Lib.hid (show cntA a = countL a by unfold cntA; rw [if_pos h0])
    have C4 := Lib.hid (fun w' ha => countOf_b a A n c w' (by omega) HOK.out ha)
    rw [HCN.out] at C2
    rw [h0] at C2 C3
    obtain ⟨t, ht⟩ : ∃ t, t = countL a := ⟨_, rfl⟩
    rw [← ht] at C2 C4
    clear ht
    cases hp : (decide (0 ≤ p) && decide (p ≤ 1114111))
    · have HP := Lib.hid hp
      rw [show hasE a p = 3 by unfold hasE; rw [if_pos h0, hp]; rfl, show hasB a p = false by unfold hasB hasE; rw [if_pos h0, hp]; rfl] at C1
      clear hp h0 hcan
      go_enter Try.func10, Try.ntmps10
      go_wp2_with fail
      refine (C1.out w ha).mono ?_
      rintro e w1 ⟨rfl, hb1⟩
      have R1 := Lib.hid (ha.next hb1)
      go_wp2_with fail
      refine (C2.out w1 R1.out).mono ?_
      rintro e w2 ⟨rfl, hb2⟩
      have R2 := Lib.hid (R1.out.next hb2)
      have b2 := below_next hb1 hb2
      clear hb1 hb2
      go_wp2_with fail
      refine (C3.out w2 R2.out).mono ?_
      rintro e w3 ⟨rfl, hb3⟩
      have R3 := Lib.hid (R2.out.next hb3)
      have b3 := below_next b2 hb3
      clear b2 hb3
      go_wp2_with fail
      refine (C4.out w3 R3.out).mono ?_
      rintro e w4 ⟨rfl, hb4⟩
      have b4 := below_next b3 hb4
      clear b3 hb4
      go_wp2_with fail
      refine (isPoint_w p false _ HP.out).mono ?_
      rintro e w4 ⟨rfl, rfl⟩
      go_wp2_with fail
      refine (setBegun29 _).mono ?_
      rintro e w5 ⟨rfl, hb5⟩
      have b5 := below_next b4 hb5
      clear b4 hb5
      go_wp2
      go_ret
      exact ⟨by simp, b5⟩
    · have HP := Lib.hid hp
      have HB := Lib.hid (show hasB a p = memB a p by unfold hasB hasE; rw [if_pos h0, hp]; rfl)
      rw [show hasE a p = 0 by unfold hasE; rw [if_pos h0, hp]; rfl, HB.out] at C1
      have C5 := Lib.hid (fun w' ha => within_b a p A n c w' (by omega) ha)
      obtain ⟨v, hv⟩ : ∃ v, v = memB a p := ⟨_, rfl⟩
      rw [← hv] at C1 C5
      clear hp h0 hcan hv
      go_enter Try.func10, Try.ntmps10
      go_wp2_with fail
      refine (C1.out w ha).mono ?_
      rintro e w1 ⟨rfl, hb1⟩
      have R1 := Lib.hid (ha.next hb1)
      go_wp2_with fail
      refine (C2.out w1 R1.out).mono ?_
      rintro e w2 ⟨rfl, hb2⟩
      have R2 := Lib.hid (R1.out.next hb2)
      have b2 := below_next hb1 hb2
      clear hb1 hb2
      go_wp2_with fail
      refine (C3.out w2 R2.out).mono ?_
      rintro e w3 ⟨rfl, hb3⟩
      have R3 := Lib.hid (R2.out.next hb3)
      have b3 := below_next b2 hb3
      clear b2 hb3
      go_wp2_with fail
      refine (C4.out w3 R3.out).mono ?_
      rintro e w4 ⟨rfl, hb4⟩
      have R4 := Lib.hid (R3.out.next hb4)
      have b4 := below_next b3 hb4
      clear b3 hb4
      go_wp2_with fail
      refine (isPoint_w p true _ HP.out).mono ?_
      rintro e w4 ⟨rfl, rfl⟩
      go_wp2_with fail
      refine (setBegun29 _).mono ?_
      rintro e w5 ⟨rfl, hb5⟩
      have R5 := Lib.hid (R4.out.next hb5)
      have b5 := below_next b4 hb5
      clear b4 hb5
      go_wp2_with fail
      refine (C5.out w5 R5.out).mono ?_
      rintro e w6 ⟨rfl, hb6⟩
      have b6 := below_next b5 hb6
      clear b5 hb6
      go_wp2
      go_ret
      exact ⟨by simp, b6⟩
  · rw [show hasE a p = chk a by unfold hasE; rw [if_neg h0], show hasB a p = false by unfold hasB hasE; rw [if_neg h0, decide_eq_false h0]; rfl] at C1
    rw [show cntA a = 0 by unfold cntA; rw [if_neg h0]] at C2
    obtain ⟨E, hE⟩ : ∃ E, E = chk a := ⟨_, rfl⟩
    rw [← hE] at C1 C2 C3 h0
    have hx0 := bz h0
    clear hE h0
    go_enter Try.func10, Try.ntmps10
    go_wp2_with fail
    refine (C1.out w ha).mono ?_
    rintro e w1 ⟨rfl, hb1⟩
    have R1 := Lib.hid (ha.next hb1)
    go_wp2_with fail
    refine (C2.out w1 R1.out).mono ?_
    rintro e w2 ⟨rfl, hb2⟩
    have R2 := Lib.hid (R1.out.next hb2)
    have b2 := below_next hb1 hb2
    clear hb1 hb2
    go_wp2_with fail
    refine (C3.out w2 R2.out).mono ?_
    rintro e w3 ⟨rfl, hb3⟩
    have b3 := below_next b2 hb3
    clear b2 hb3
    go_wp2_with fail
    refine (setBegun29 _).mono ?_
    rintro e w5 ⟨rfl, hb5⟩
    have b5 := below_next b3 hb5
    clear b3 hb5
    go_wp2
    go_ret
    exact ⟨by simp, b5⟩
end Go.Proofs.Ytehlijnhhbdbhaa
