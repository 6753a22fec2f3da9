/- SetMakes, SetChecks, SetLess, SetUnions, walked. -/
import Derived.Test.YtehlijnhhbdbhaaSetV
import Derived.Test.YtehlijnhhbdbhaaSetOps
namespace Go.Proofs.Ytehlijnhhbdbhaa
open Go.RowKit
set_option linter.unusedVariables false
theorem less_iff {a b nb : List (Int × Int)} (ha : Can a) (hn : IsSet nb (fun p => 0 ≤ p ∧ p ≤ 1114111 ∧ ¬ mem b p)) (p : Int) : (mem a p ∧ ¬ mem b p) ↔ (mem a p ∧ mem nb p) := by
  constructor
  · rintro ⟨h1, h2⟩; have := ha.mem_range h1; exact ⟨h1, (hn.2 p).2 ⟨this.1, this.2, h2⟩⟩
  · rintro ⟨h1, h2⟩; exact ⟨h1, ((hn.2 p).1 h2).2.2⟩
set_option maxRecDepth 100000 in
set_option maxHeartbeats 1000000 in
theorem lawUnions (a b : List (Int × Int)) (A B : Option Addr) (n c m d : Nat) (w : World) (hnc : n ≤ c) (hc : c ≤ maxLen) (hmd : m ≤ d) (hd : d ≤ maxLen) (ha : Rds w w.heap.size 2 A n (rngs a)) (hb0 : Rds w w.heap.size 2 B m (rngs b)) :
    Calls Try.prog 8 #[.slice A n c, .slice B m d] w fun e w' => e = .returned (.bool true) ∧ Below w.heap.size w w' := by
  have HA := Lib.hid ha.rngs_len
  have HB := Lib.hid hb0.rngs_len
  obtain ⟨x, hx⟩ : ∃ x, chk2 a b = x := ⟨_, rfl⟩
  have HX := Lib.hid hx
  have C1 := Lib.hid (union39 a b A B n c m d w hnc hc hmd hd ha hb0)
  have C2 := Lib.hid (fun w' (hb : Below w.heap.size w w') => checkSets_any a b A B n m c d w' w.heap.size w.heap.size (by omega) (by omega) (ha.below hb (Nat.le_refl _)) (hb0.below hb (Nat.le_refl _)))
  rw [hx] at C1 C2
  clear hx
  go_enter Try.func8, Try.ntmps8
  go_wp2_with fail
  refine C1.out.mono ?_
  rintro e w1 ⟨out0, h0, out, A1, n1, c1, rfl, h1, h2, hown, hb⟩
  obtain ⟨y, hy⟩ : ∃ y, y = (if x = 0 then (if 400 < out0.length then 2 else 0) else x) := ⟨_, rfl⟩
  rw [← hy] at h1 h2 ⊢
  have H0 := Lib.hid h0
  have H1 := Lib.hid h1
  have H2 := Lib.hid h2
  have HY := Lib.hid hy
  have hlo := Lib.hid (own_rngs_len hown)
  clear h0 h1 h2 hy
  obtain ⟨_, _, hv1, q1, q2⟩ := own_slice hown
  injection hv1 with e1 e2 e3
  subst e1 e3
  clear e2
  go_wp2_with fail
  refine (C2.out w1 hb).mono ?_
  rintro e w2 ⟨rfl, r, rfl⟩
  by_cases h : x = 0
  · subst h
    go_wp2_with fail
    have hk := chk2_ok HX.out
    have hnA := HA.out
    have hnB := HB.out
    refine (unionOf_any a b A B n c m d _ (by omega) hc hk.2.1.1 hk.2.2.2.1 (((ha.below hb (Nat.le_refl _)).drewN r).more (by have := hb.size; simpa using this)) (((hb0.below hb (Nat.le_refl _)).drewN r).more (by have := hb.size; simpa using this))).mono ?_
    rintro e w3 ⟨want, hset, hlen, A3, n3, c3, rfl, hown3, hb3⟩
    have HE := Lib.hid (IsSet.eq (H0.out (by trivial)).1 hset (fun p => Iff.rfl))
    have HW := Lib.hid (own_rngs_len hown3)
    obtain ⟨_, _, hv3, r1, r2⟩ := own_slice hown3
    injection hv3 with e1 e2 e3
    subst e1 e3
    clear e2 hset hlen
    go_wp2_with fail
    refine (setBegun29 w3).mono ?_
    rintro e w4 ⟨rfl, hb4⟩
    go_wp2_with fail
    refine (setIs30 out want y 0 A1 A3 n1 c1 n3 c3 w4 w4.heap.size w4.heap.size (by omega) (by omega) ((((Rds.of_own hown).drewN r).below hb3 (Nat.le_refl _)).below hb4 (by have := hb3.size; simpa using this) |>.more (by have h1 := hb3.size; have h2 := hb4.size; simp at h1; omega)) (((Rds.of_own hown3).below hb4 (Nat.le_refl _)).more hb4.size)
      (by rw [HY.out, HE.out]; simp) ?_ (fun hy => H2.out hy)).mono ?_
    · intro hy; rw [← HE.out]; exact IsSet.eq (H1.out hy).1 (H0.out (by trivial)).1 (fun p => Iff.rfl)
    rintro e w5 ⟨rfl, _, rfl⟩
    go_wp2
    go_ret
    exact ⟨rfl, below_drewN (((below_drewN hb r).trans (hb3.mono (by have := hb.size; simpa using this))).trans (hb4.mono (by have h1 := hb.size; have h2 := hb3.size; simp at h2; omega))) _⟩
  · have hx0 : (x == 0) = false := by rw [beq_eq_false_iff_ne]; exact h
    go_wp2_with fail
    refine (setBegun29 _).mono ?_
    rintro e w4 ⟨rfl, hb4⟩
    go_wp2_with fail
    refine (setIs30 out [] y x A1 none n1 c1 0 0 w4 w4.heap.size w4.heap.size (by omega) (by decide) (((Rds.of_own hown).drewN r).below hb4 (Nat.le_refl _) |>.more (by have h2 := hb4.size; simp at h2; omega)) (Rds.nil_ _ _ _ _)
      (by rw [HY.out, if_neg h, if_neg h]) ?_ (fun hy => H2.out hy)).mono ?_
    · intro hy; rw [HY.out, if_neg h] at hy; exact absurd hy h
    rintro e w5 ⟨rfl, _, rfl⟩
    go_wp2
    go_ret
    exact ⟨rfl, below_drewN ((below_drewN hb r).trans (hb4.mono (by have := hb.size; simpa using this))) _⟩
set_option maxRecDepth 100000 in
set_option maxHeartbeats 1000000 in
theorem lawLess (a b : List (Int × Int)) (A B : Option Addr) (n c m d : Nat) (w : World) (hnc : n ≤ c) (hc : c ≤ maxLen) (hmd : m ≤ d) (hd : d ≤ maxLen) (ha : Rds w w.heap.size 2 A n (rngs a)) (hb0 : Rds w w.heap.size 2 B m (rngs b)) :
    Calls Try.prog 7 #[.slice A n c, .slice B m d] w fun e w' => e = .returned (.bool true) ∧ Below w.heap.size w w' := by
  have HA := Lib.hid ha.rngs_len
  have HB := Lib.hid hb0.rngs_len
  obtain ⟨x, hx⟩ : ∃ x, chk2 a b = x := ⟨_, rfl⟩
  have HX := Lib.hid hx
  have C1 := Lib.hid (less38 a b A B n c m d w hnc hc hmd hd ha hb0)
  have C2 := Lib.hid (fun w' (hb : Below w.heap.size w w') => checkSets_any a b A B n m c d w' w.heap.size w.heap.size (by omega) (by omega) (ha.below hb (Nat.le_refl _)) (hb0.below hb (Nat.le_refl _)))
  rw [hx] at C1 C2
  clear hx
  go_enter Try.func7, Try.ntmps7
  go_wp2_with fail
  refine C1.out.mono ?_
  rintro e w1 ⟨out0, h0, out, A1, n1, c1, rfl, h1, h2, hown, hb⟩
  obtain ⟨y, hy⟩ : ∃ y, y = (if x = 0 then (if 400 < out0.length then 2 else 0) else x) := ⟨_, rfl⟩
  rw [← hy] at h1 h2 ⊢
  have H0 := Lib.hid h0
  have H1 := Lib.hid h1
  have H2 := Lib.hid h2
  have HY := Lib.hid hy
  have hlo := Lib.hid (own_rngs_len hown)
  clear h0 h1 h2 hy
  obtain ⟨_, _, hv1, q1, q2⟩ := own_slice hown
  injection hv1 with e1 e2 e3
  subst e1 e3
  clear e2
  go_wp2_with fail
  refine (C2.out w1 hb).mono ?_
  rintro e w2 ⟨rfl, r, rfl⟩
  by_cases h : x = 0
  · subst h
    go_wp2_with fail
    have hk := chk2_ok HX.out
    have hnA := HA.out
    have hnB := HB.out
    refine (notOf_any b B m d _ (by omega) hd hk.2.2.2.1 (((hb0.below hb (Nat.le_refl _)).drewN r).more (by have := hb.size; simpa using this))).mono ?_
    rintro e wn ⟨nb, hsn, hln, An, nn, cn, rfl, hownn, hbn⟩
    have HN := Lib.hid hsn
    have hlnn := own_rngs_len hownn
    have hnn : nn ≤ 10000 := by omega
    clear hsn hln hlnn
    have hzn := hbn.size
    go_wp2_with fail
    refine (meetOf_any a nb A An n c nn cn _ (by omega) hc hk.2.1.1 HN.out.1.1 ((((ha.below hb (Nat.le_refl _)).drewN r).below hbn (by have := hb.size; simpa using this)).more (by have := hb.size; simp at hzn; omega)) (Rds.of_own hownn)).mono ?_
    rintro e w3 ⟨want, hset, hlen, A3, n3, c3, rfl, hown3, hb3'⟩
    have hb3 := hbn.trans (hb3'.mono hzn)
    have HE := Lib.hid (IsSet.eq (H0.out (by trivial)).1 hset (fun p => less_iff hk.2.1 HN.out p))
    have HW := Lib.hid (own_rngs_len hown3)
    obtain ⟨_, _, hv3, r1, r2⟩ := own_slice hown3
    injection hv3 with e1 e2 e3
    subst e1 e3
    clear e2 hset hlen
    go_wp2_with fail
    refine (setBegun29 w3).mono ?_
    rintro e w4 ⟨rfl, hb4⟩
    go_wp2_with fail
    refine (setIs30 out want y 0 A1 A3 n1 c1 n3 c3 w4 w4.heap.size w4.heap.size (by omega) (by omega) ((((Rds.of_own hown).drewN r).below hb3 (Nat.le_refl _)).below hb4 (by have := hb3.size; simpa using this) |>.more (by have h1 := hb3.size; have h2 := hb4.size; simp at h1; omega)) (((Rds.of_own hown3).below hb4 (Nat.le_refl _)).more hb4.size)
      (by rw [HY.out, HE.out]; simp) ?_ (fun hy => H2.out hy)).mono ?_
    · intro hy; rw [← HE.out]; exact IsSet.eq (H1.out hy).1 (H0.out (by trivial)).1 (fun p => Iff.rfl)
    rintro e w5 ⟨rfl, _, rfl⟩
    go_wp2
    go_ret
    exact ⟨rfl, below_drewN (((below_drewN hb r).trans (hb3.mono (by have := hb.size; simpa using this))).trans (hb4.mono (by have h1 := hb.size; have h2 := hb3.size; simp at h2; omega))) _⟩
  · have hx0 : (x == 0) = false := by rw [beq_eq_false_iff_ne]; exact h
    go_wp2_with fail
    refine (setBegun29 _).mono ?_
    rintro e w4 ⟨rfl, hb4⟩
    go_wp2_with fail
    refine (setIs30 out [] y x A1 none n1 c1 0 0 w4 w4.heap.size w4.heap.size (by omega) (by decide) (((Rds.of_own hown).drewN r).below hb4 (Nat.le_refl _) |>.more (by have h2 := hb4.size; simp at h2; omega)) (Rds.nil_ _ _ _ _)
      (by rw [HY.out, if_neg h, if_neg h]) ?_ (fun hy => H2.out hy)).mono ?_
    · intro hy; rw [HY.out, if_neg h] at hy; exact absurd hy h
    rintro e w5 ⟨rfl, _, rfl⟩
    go_wp2
    go_ret
    exact ⟨rfl, below_drewN ((below_drewN hb r).trans (hb4.mono (by have := hb.size; simpa using this))) _⟩
set_option maxRecDepth 100000 in
set_option maxHeartbeats 1000000 in
theorem lawMakes (a : List (Int × Int)) (A : Option Addr) (n c : Nat) (w : World) (hnc : n ≤ c) (hc : c ≤ maxLen) (ha : Rds w w.heap.size 2 A n (rngs a)) :
    Calls Try.prog 3 #[.slice A n c] w fun e w' => e = .returned (.bool true) ∧ Below w.heap.size w w' := by
  have HA := Lib.hid ha.rngs_len
  obtain ⟨x, hx⟩ : ∃ x, rangesE a = x := ⟨_, rfl⟩
  have HX := Lib.hid hx
  have C1 := Lib.hid (make26 a x hx A n c w (by omega) ha)
  have C2 := Lib.hid (fun w' (hb : Below w.heap.size w w') => rightRanges_any a A n c w' w.heap.size (by omega) (ha.below hb (Nat.le_refl _)))
  rw [hx] at C2
  clear hx
  go_enter Try.func3, Try.ntmps3
  go_wp2_with fail
  refine C1.out.mono ?_
  rintro e w1 ⟨out, A1, n1, c1, rfl, h1, h2, hown, hb⟩
  have H1 := Lib.hid h1
  have H2 := Lib.hid h2
  have hlo := Lib.hid (own_rngs_len hown)
  clear h1 h2
  obtain ⟨_, _, hv1, q1, q2⟩ := own_slice hown
  injection hv1 with e1 e2 e3
  subst e1 e3
  clear e2
  have R1 := Lib.hid (Rds.of_own hown)
  go_wp2_with fail
  refine (C2.out w1 hb).mono ?_
  rintro e w2 ⟨rfl, r, rfl⟩
  have RQ := Lib.hid (R1.out.next (below_q w1 r))
  have hbq := below_next hb (below_q w1 r)
  by_cases h : x = 0
  · subst h
    have hk := (rangesE_ok a).1 HX.out
    have hnA := HA.out
    have HOK := Lib.hid hk.2
    have RA := Lib.hid ((ha.next hb).next (below_q w1 r))
    clear ha
    go_wp2_with fail
    refine (makeOf_any a A n c _ (by omega) hc HOK.out RA.out).mono ?_
    rintro e w3 ⟨want, hset, hlen, A3, n3, c3, rfl, hown3, hb3⟩
    have HE := Lib.hid (IsSet.eq (H1.out (by trivial)).1 hset (fun p => Iff.rfl))
    have HLL := Lib.hid (H1.out (by trivial)).2
    have HW := Lib.hid (own_rngs_len hown3)
    obtain ⟨_, _, hv3, r1, r2⟩ := own_slice hown3
    injection hv3 with e1 e2 e3
    subst e1 e3
    clear e2 hset hlen
    have R3 := Lib.hid (RQ.out.next hb3)
    have R4 := Lib.hid (Rds.of_own hown3)
    have hb3' := below_next hbq hb3
    clear hown3 hb3 hbq hown
    go_wp2_with fail
    refine (setBegun29 w3).mono ?_
    rintro e w4 ⟨rfl, hb4⟩
    have R5 := Lib.hid (R3.out.next hb4)
    have R6 := Lib.hid (R4.out.next hb4)
    have hb4' := below_next hb3' hb4
    clear hb4 hb3'
    go_wp2_with fail
    refine (setIs30 out want 0 0 A1 A3 n1 c1 n3 c3 w4 w4.heap.size w4.heap.size (by omega) (by omega) R5.out R6.out
      (by rw [if_pos rfl, if_neg]; rw [← HE.out]; have := HLL.out; have := hk.1; omega) (fun _ => HE.out) (fun hy => H2.out hy)).mono ?_
    rintro e w5 ⟨rfl, q, rfl⟩
    go_wp2
    go_ret
    exact ⟨rfl, below_next hb4' (below_q w4 q)⟩
  · have hx0 : (x == 0) = false := bz h
    have HN := Lib.hid h
    clear h
    go_wp2_with fail
    refine (setBegun29 _).mono ?_
    rintro e w4 ⟨rfl, hb4⟩
    have R5 := Lib.hid (RQ.out.next hb4)
    have hb4' := below_next hbq hb4
    clear hb4 hbq hown
    go_wp2_with fail
    refine (setIs30 out [] x x A1 none n1 c1 0 0 w4 w4.heap.size w4.heap.size (by omega) (by decide) R5.out (Rds.nil_ _ _ _ _)
      (by rw [if_neg HN.out]) (fun hy => absurd hy HN.out) (fun hy => H2.out hy)).mono ?_
    rintro e w5 ⟨rfl, q, rfl⟩
    go_wp2
    go_ret
    exact ⟨rfl, below_next hb4' (below_q w4 q)⟩
set_option maxRecDepth 100000 in
set_option maxHeartbeats 1000000 in
theorem lawChecks (a : List (Int × Int)) (A : Option Addr) (n c : Nat) (w : World) (hnc : n ≤ c) (hc : c ≤ maxLen) (ha : Rds w w.heap.size 2 A n (rngs a)) :
    Calls Try.prog 5 #[.slice A n c] w fun e w' => e = .returned (.bool true) ∧ Below w.heap.size w w' := by
  have C1 := Lib.hid (fun w' ha => check34 a A n c w' hnc hc ha)
  have C2 := Lib.hid (fun w' (ha : Rds w' w'.heap.size 2 A n (rngs a)) => checkSet_any a A n c w' w'.heap.size (by omega) ha)
  obtain ⟨x, hx⟩ : ∃ x, chk a = x := ⟨_, rfl⟩
  rw [hx] at C1 C2
  clear hx
  go_enter Try.func5, Try.ntmps5
  go_wp2_with fail
  refine (setBegun29 w).mono ?_
  rintro e w1 ⟨rfl, hb1⟩
  have R1 := Lib.hid (ha.next hb1)
  go_wp2_with fail
  refine (C1.out w1 R1.out).mono ?_
  rintro e w2 ⟨rfl, hb2⟩
  have R2 := Lib.hid (R1.out.next hb2)
  have hb2' := below_next hb1 hb2
  clear hb1 hb2
  go_wp2_with fail
  refine (C2.out w2 R2.out).mono ?_
  rintro e w3 ⟨rfl, q, rfl⟩
  go_wp2
  go_ret
  exact ⟨rfl, below_next hb2' (below_q w2 q)⟩
end Go.Proofs.Ytehlijnhhbdbhaa
