/- FoldClasses, FoldIn, FoldAlike: walked. -/
import Derived.Test.YtehlijnhhbdbhaaFoldR
import Derived.Test.YtehlijnhhbdbhaaSetOps
namespace Go.Proofs.Ytehlijnhhbdbhaa
open Go.RowKit
set_option linter.unusedVariables false
theorem sameS_self (l : List (Int × Int)) : sameS l l = true := by simp [sameS]
set_option maxRecDepth 100000 in
set_option maxHeartbeats 2000000 in
theorem lawClasses (s : ByteArray) (w : World) : Calls Try.prog 17 #[.string s] w fun e w' => e = .returned (.bool true) ∧ Below w.heap.size w w' := by
  cases hc : cls s.toList with
  | none =>
    have C1 := Lib.hid (fun w => class56_none s w hc)
    have C2 := Lib.hid (fun w => isClass57 s false (by rw [hc]; rfl) w)
    clear hc
    go_enter Try.func17, Try.ntmps17
    go_wp2_with fail
    refine (C1.out _).mono ?_
    rintro e w' ⟨rfl, rfl⟩
    go_wp2_with fail
    refine (C2.out _).mono ?_
    rintro e w1 ⟨rfl, b1⟩
    go_wp2_with fail
    refine (foldBegun58 _).mono ?_
    rintro e w2 ⟨rfl, hb⟩
    have b2 := below_next b1 hb
    clear b1 hb
    go_wp2
    go_ret
    exact ⟨rfl, b2⟩
  | some l =>
    have C1 := Lib.hid (fun w => class56 s l w hc)
    have C2 := Lib.hid (fun w => isClass57 s true (by rw [hc]; rfl) w)
    have C3 := Lib.hid (fun w => classOf59 s l w hc)
    clear hc
    go_enter Try.func17, Try.ntmps17
    go_wp2_with fail
    refine (C1.out _).mono ?_
    rintro e w1 ⟨out, A, n, c, rfl, q1, q2, S, L, LN, R, b1⟩
    go_wp2_with fail
    refine (C2.out _).mono ?_
    rintro e w2 ⟨rfl, hb⟩
    have R2 := Lib.hid (R.out.next hb)
    have b2 := below_next b1 hb
    clear b1 hb
    go_wp2_with fail
    refine (foldBegun58 _).mono ?_
    rintro e w3 ⟨rfl, hb⟩
    have R3 := Lib.hid (R2.out.next hb)
    have b3 := below_next b2 hb
    clear b2 hb
    go_wp2_with fail
    refine (C3.out _).mono ?_
    rintro e w4 ⟨out2, hs2, hl2, A2, n2, c2, rfl, hown, hb⟩
    have HE := Lib.hid (S.out.eq hs2 (fun p => Iff.rfl))
    have R4 := Lib.hid (R3.out.next hb)
    have R5 := Lib.hid (Rds.of_own hown)
    obtain ⟨_, _, hv, q3, q4⟩ := own_slice hown
    injection hv with e1 e2 e3
    subst e1 e3
    clear e2 hown hs2 hl2
    have b4 := below_next b3 hb
    clear b3 hb
    go_wp2_with fail
    refine (sameS_ out out2 true (by rw [HE.out]; exact sameS_self _) A A2 n n2 c c2 w4 (by omega) (by omega) R4.out R5.out).mono ?_
    rintro e w5 ⟨rfl, hb⟩
    have b5 := below_next b4 hb
    go_wp2
    go_ret
    exact ⟨rfl, b5⟩
set_option maxRecDepth 100000 in
set_option maxHeartbeats 2000000 in
theorem lawIn (s : ByteArray) (p : Int) (w : World) : Calls Try.prog 20 #[.string s, .int .i64 p] w fun e w' => e = .returned (.bool true) ∧ Below w.heap.size w w' := by
  cases hc : cls s.toList with
  | none =>
    have C1 := Lib.hid (fun w => in65_none s p w hc)
    have C2 := Lib.hid (fun w => isClass57 s false (by rw [hc]; rfl) w)
    clear hc
    go_enter Try.func20, Try.ntmps20
    go_wp2_with fail
    refine (C1.out _).mono ?_
    rintro e w1 ⟨rfl, b1⟩
    go_wp2_with fail
    refine (C2.out _).mono ?_
    rintro e w2 ⟨rfl, hb⟩
    have b2 := below_next b1 hb
    clear b1 hb
    go_wp2_with fail
    refine (foldBegun58 _).mono ?_
    rintro e w3 ⟨rfl, hb⟩
    have b3 := below_next b2 hb
    clear b2 hb
    go_wp2
    go_ret
    exact ⟨rfl, b3⟩
  | some l =>
    by_cases hp : 0 ≤ p ∧ p ≤ 1114111
    · obtain ⟨h0, h1⟩ := hp
      have C1 := Lib.hid (fun w => in65 s l p w hc h0 h1)
      have C2 := Lib.hid (fun w => isClass57 s true (by rw [hc]; rfl) w)
      have C3 := Lib.hid (fun w => inClass66 s l p w hc)
      have HP := Lib.hid (show (decide (0 ≤ p) && decide (p ≤ 1114111)) = true by simp; omega)
      clear hc h0 h1
      generalize memB l p = b at C1 C3
      go_enter Try.func20, Try.ntmps20
      go_wp2_with fail
      refine (C1.out _).mono ?_
      rintro e w1 ⟨rfl, b1⟩
      go_wp2_with fail
      refine (C2.out _).mono ?_
      rintro e w2 ⟨rfl, hb⟩
      have b2 := below_next b1 hb
      clear b1 hb
      go_wp2_with fail
      refine (isPoint_of p true _ HP.out).mono ?_
      rintro e w' ⟨rfl, rfl⟩
      go_wp2_with fail
      refine (foldBegun58 _).mono ?_
      rintro e w3 ⟨rfl, hb⟩
      have b3 := below_next b2 hb
      clear b2 hb
      go_wp2_with fail
      refine (C3.out _).mono ?_
      rintro e w' ⟨rfl, rfl⟩
      go_wp2
      go_ret
      exact ⟨by simp, b3⟩
    · have C1 := Lib.hid (fun w => in65_range s l p w hc hp)
      have C2 := Lib.hid (fun w => isClass57 s true (by rw [hc]; rfl) w)
      have HP := Lib.hid (show (decide (0 ≤ p) && decide (p ≤ 1114111)) = false by rw [Bool.eq_false_iff]; simp; omega)
      clear hc hp
      go_enter Try.func20, Try.ntmps20
      go_wp2_with fail
      refine (C1.out _).mono ?_
      rintro e w1 ⟨rfl, b1⟩
      go_wp2_with fail
      refine (C2.out _).mono ?_
      rintro e w2 ⟨rfl, hb⟩
      have b2 := below_next b1 hb
      clear b1 hb
      go_wp2_with fail
      refine (isPoint_of p false _ HP.out).mono ?_
      rintro e w' ⟨rfl, rfl⟩
      go_wp2_with fail
      refine (foldBegun58 _).mono ?_
      rintro e w3 ⟨rfl, hb⟩
      have b3 := below_next b2 hb
      clear b2 hb
      go_wp2
      go_ret
      exact ⟨rfl, b3⟩
set_option maxRecDepth 100000 in
set_option maxHeartbeats 2000000 in
theorem lawAlike (s : ByteArray) (p : Int) (w : World) : Calls Try.prog 21 #[.string s, .int .i64 p] w fun e w' => e = .returned (.bool true) ∧ Below w.heap.size w w' := by
  cases hc : cls s.toList with
  | none =>
    have C1 := Lib.hid (fun w => class56_none s w hc)
    have C2 := Lib.hid (fun w => in65_none s p w hc)
    clear hc
    go_enter Try.func21, Try.ntmps21
    go_wp2_with fail
    refine (foldBegun58 _).mono ?_
    rintro e w1 ⟨rfl, b1⟩
    go_wp2_with fail
    refine (C1.out _).mono ?_
    rintro e w' ⟨rfl, rfl⟩
    go_wp2_with fail
    refine (C2.out _).mono ?_
    rintro e w2 ⟨rfl, hb⟩
    have b2 := below_next b1 hb
    clear b1 hb
    go_wp2
    go_ret
    exact ⟨rfl, b2⟩
  | some l =>
    have C1 := Lib.hid (fun w => class56 s l w hc)
    by_cases hp : 0 ≤ p ∧ p ≤ 1114111
    · obtain ⟨h0, h1⟩ := hp
      have C2 := Lib.hid (fun w => in65 s l p w hc h0 h1)
      clear hc h0 h1
      go_enter Try.func21, Try.ntmps21
      go_wp2_with fail
      refine (foldBegun58 _).mono ?_
      rintro e w1 ⟨rfl, b1⟩
      go_wp2_with fail
      refine (C1.out _).mono ?_
      rintro e w2 ⟨out, A, n, c, rfl, q1, q2, S, L, LN, R, hb⟩
      have b2 := below_next b1 hb
      clear b1 hb
      go_wp2_with fail
      refine (C2.out _).mono ?_
      rintro e w3 ⟨rfl, hb⟩
      have R2 := Lib.hid (R.out.next hb)
      have b3 := below_next b2 hb
      clear b2 hb
      have HB := Lib.hid (show memB out p = memB l p by rw [Bool.eq_iff_iff, memB_iff, memB_iff]; exact S.out.2 p)
      generalize memB l p = b at HB ⊢
      go_wp2_with fail
      refine (within_any out p A n c w3 w3.heap.size (by omega) R2.out).mono ?_
      rintro e w' ⟨rfl, q, rfl⟩
      rw [HB.out]
      go_wp2
      go_ret
      exact ⟨by simp, below_drewN b3 q⟩
    · have C2 := Lib.hid (fun w => in65_range s l p w hc hp)
      clear hc hp
      go_enter Try.func21, Try.ntmps21
      go_wp2_with fail
      refine (foldBegun58 _).mono ?_
      rintro e w1 ⟨rfl, b1⟩
      go_wp2_with fail
      refine (C1.out _).mono ?_
      rintro e w2 ⟨out, A, n, c, rfl, q1, q2, S, L, LN, R, hb⟩
      have b2 := below_next b1 hb
      clear b1 hb
      go_wp2_with fail
      refine (C2.out _).mono ?_
      rintro e w3 ⟨rfl, hb⟩
      have b3 := below_next b2 hb
      clear b2 hb
      go_wp2
      go_ret
      exact ⟨rfl, b3⟩
end Go.Proofs.Ytehlijnhhbdbhaa
