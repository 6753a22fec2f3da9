/- The laws SetNots, SetMeets, walked. -/
import Derived.Test.YtehlijnhhbdbhaaSetU
namespace Go.Proofs.Ytehlijnhhbdbhaa
open Go.RowKit
set_option linter.unusedVariables false
theorem wout_right {w w' w0 w1 : World} {f g : Int → Prop} {k j : Nat} {x : Int} {out out0 want : List (Int × Int)} (hx : x = 0) (h0 : x = 0 → IsSet out0 f ∧ out0.length ≤ k) (hw : IsSet want g) (hfg : ∀ p, f p ↔ g p) : out0 = want := IsSet.eq (h0 hx).1 hw hfg
set_option maxRecDepth 100000 in
set_option maxHeartbeats 1000000 in
theorem lawNots (a : List (Int × Int)) (A : Option Addr) (n c : Nat) (w : World) (hnc : n ≤ c) (hc : c ≤ maxLen) (ha : Rds w w.heap.size 2 A n (rngs a)) :
    Calls Try.prog 4 #[.slice A n c] w fun e w' => e = .returned (.bool true) ∧ Below w.heap.size w w' := by
  have HA := Lib.hid ha.rngs_len
  obtain ⟨x, hx⟩ : ∃ x, chk a = x := ⟨_, rfl⟩
  have HX := Lib.hid hx
  have C1 := Lib.hid (not31 a A n c w hnc hc ha)
  have C2 := Lib.hid (fun w' (hb : Below w.heap.size w w') => checkSet_any a A n c w' w.heap.size (by omega) (ha.below hb (Nat.le_refl _)))
  rw [hx] at C1 C2
  clear hx
  go_enter Try.func4, Try.ntmps4
  go_wp2_with fail
  refine C1.out.mono ?_
  rintro e w1 ⟨out0, h0, out, A1, n1, c1, rfl, h1, h2, hown, hb⟩
  obtain ⟨y, hy⟩ : ∃ y, y = (if x = 0 then (if 400 < out0.length then 2 else 0) else x) := ⟨_, rfl⟩
  rw [← hy] at h1 h2 ⊢
  have H0 := Lib.hid h0
  have H1 := Lib.hid h1
  have H2 := Lib.hid h2
  have HY := Lib.hid hy
  have hlo := Lib.hid (own_rngs_len hown)
  clear h0 h1 h2 hy
  obtain ⟨_, _, hv1, q1, q2⟩ := own_slice hown
  injection hv1 with e1 e2 e3
  subst e1 e3
  clear e2
  go_wp2_with fail
  refine (C2.out w1 hb).mono ?_
  rintro e w2 ⟨rfl, r, rfl⟩
  by_cases h : x = 0
  · subst h
    go_wp2_with fail
    have hk := (chk_ok a).1 HX.out
    have hnA := HA.out
    refine (notOf_any a A n c _ (by omega) hc hk.2.1 (((ha.below hb (Nat.le_refl _)).drewN r).more (by have := hb.size; simpa using this))).mono ?_
    rintro e w3 ⟨want, hset, hlen, A3, n3, c3, rfl, hown3, hb3⟩
    have HE := Lib.hid (IsSet.eq (H0.out (by trivial)).1 hset (fun p => Iff.rfl))
    have HW := Lib.hid (own_rngs_len hown3)
    obtain ⟨_, _, hv3, r1, r2⟩ := own_slice hown3
    injection hv3 with e1 e2 e3
    subst e1 e3
    clear e2 hset hlen
    go_wp2_with fail
    refine (setBegun29 w3).mono ?_
    rintro e w4 ⟨rfl, hb4⟩
    go_wp2_with fail
    refine (setIs30 out want y 0 A1 A3 n1 c1 n3 c3 w4 w4.heap.size w4.heap.size (by omega) (by omega) ((((Rds.of_own hown).drewN r).below hb3 (Nat.le_refl _)).below hb4 (by have := hb3.size; simpa using this) |>.more (by have h1 := hb3.size; have h2 := hb4.size; simp at h1; omega)) (((Rds.of_own hown3).below hb4 (Nat.le_refl _)).more hb4.size)
      (by rw [HY.out, HE.out]; simp) ?_ (fun hy => H2.out hy)).mono ?_
    · intro hy; rw [← HE.out]; exact IsSet.eq (H1.out hy).1 (H0.out (by trivial)).1 (fun p => Iff.rfl)
    rintro e w5 ⟨rfl, _, rfl⟩
    go_wp2
    go_ret
    exact ⟨rfl, below_drewN (((below_drewN hb r).trans (hb3.mono (by have := hb.size; simpa using this))).trans (hb4.mono (by have h1 := hb.size; have h2 := hb3.size; simp at h2; omega))) _⟩
  · have hx0 : (x == 0) = false := by rw [beq_eq_false_iff_ne]; exact h
    go_wp2_with fail
    refine (setBegun29 _).mono ?_
    rintro e w4 ⟨rfl, hb4⟩
    go_wp2_with fail
    refine (setIs30 out [] y x A1 none n1 c1 0 0 w4 w4.heap.size w4.heap.size (by omega) (by decide) (((Rds.of_own hown).drewN r).below hb4 (Nat.le_refl _) |>.more (by have h2 := hb4.size; simp at h2; omega)) (Rds.nil_ _ _ _ _)
      (by rw [HY.out, if_neg h, if_neg h]) ?_ (fun hy => H2.out hy)).mono ?_
    · intro hy; rw [HY.out, if_neg h] at hy; exact absurd hy h
    rintro e w5 ⟨rfl, _, rfl⟩
    go_wp2
    go_ret
    exact ⟨rfl, below_drewN ((below_drewN hb r).trans (hb4.mono (by have := hb.size; simpa using this))) _⟩
set_option maxRecDepth 100000 in
set_option maxHeartbeats 1000000 in
theorem lawMeets (a b : List (Int × Int)) (A B : Option Addr) (n c m d : Nat) (w : World) (hnc : n ≤ c) (hc : c ≤ maxLen) (hmd : m ≤ d) (hd : d ≤ maxLen) (ha : Rds w w.heap.size 2 A n (rngs a)) (hb0 : Rds w w.heap.size 2 B m (rngs b)) :
    Calls Try.prog 6 #[.slice A n c, .slice B m d] w fun e w' => e = .returned (.bool true) ∧ Below w.heap.size w w' := by
  have HA := Lib.hid ha.rngs_len
  have HB := Lib.hid hb0.rngs_len
  obtain ⟨x, hx⟩ : ∃ x, chk2 a b = x := ⟨_, rfl⟩
  have HX := Lib.hid hx
  have C1 := Lib.hid (meet35 a b A B n c m d w hnc hc hmd hd ha hb0)
  have C2 := Lib.hid (fun w' (hb : Below w.heap.size w w') => checkSets_any a b A B n m c d w' w.heap.size w.heap.size (by omega) (by omega) (ha.below hb (Nat.le_refl _)) (hb0.below hb (Nat.le_refl _)))
  rw [hx] at C1 C2
  clear hx
  go_enter Try.func6, Try.ntmps6
  go_wp2_with fail
  refine C1.out.mono ?_
  rintro e w1 ⟨out0, h0, out, A1, n1, c1, rfl, h1, h2, hown, hb⟩
  obtain ⟨y, hy⟩ : ∃ y, y = (if x = 0 then (if 400 < out0.length then 2 else 0) else x) := ⟨_, rfl⟩
  rw [← hy] at h1 h2 ⊢
  have H0 := Lib.hid h0
  have H1 := Lib.hid h1
  have H2 := Lib.hid h2
  have HY := Lib.hid hy
  have hlo := Lib.hid (own_rngs_len hown)
  clear h0 h1 h2 hy
  obtain ⟨_, _, hv1, q1, q2⟩ := own_slice hown
  injection hv1 with e1 e2 e3
  subst e1 e3
  clear e2
  go_wp2_with fail
  refine (C2.out w1 hb).mono ?_
  rintro e w2 ⟨rfl, r, rfl⟩
  by_cases h : x = 0
  · subst h
    go_wp2_with fail
    have hk := chk2_ok HX.out
    have hnA := HA.out
    have hnB := HB.out
    refine (meetOf_any a b A B n c m d _ (by omega) hc hk.2.1.1 hk.2.2.2.1 (((ha.below hb (Nat.le_refl _)).drewN r).more (by have := hb.size; simpa using this)) (((hb0.below hb (Nat.le_refl _)).drewN r).more (by have := hb.size; simpa using this))).mono ?_
    rintro e w3 ⟨want, hset, hlen, A3, n3, c3, rfl, hown3, hb3⟩
    have HE := Lib.hid (IsSet.eq (H0.out (by trivial)).1 hset (fun p => Iff.rfl))
    have HW := Lib.hid (own_rngs_len hown3)
    obtain ⟨_, _, hv3, r1, r2⟩ := own_slice hown3
    injection hv3 with e1 e2 e3
    subst e1 e3
    clear e2 hset hlen
    go_wp2_with fail
    refine (setBegun29 w3).mono ?_
    rintro e w4 ⟨rfl, hb4⟩
    go_wp2_with fail
    refine (setIs30 out want y 0 A1 A3 n1 c1 n3 c3 w4 w4.heap.size w4.heap.size (by omega) (by omega) ((((Rds.of_own hown).drewN r).below hb3 (Nat.le_refl _)).below hb4 (by have := hb3.size; simpa using this) |>.more (by have h1 := hb3.size; have h2 := hb4.size; simp at h1; omega)) (((Rds.of_own hown3).below hb4 (Nat.le_refl _)).more hb4.size)
      (by rw [HY.out, HE.out]; simp) ?_ (fun hy => H2.out hy)).mono ?_
    · intro hy; rw [← HE.out]; exact IsSet.eq (H1.out hy).1 (H0.out (by trivial)).1 (fun p => Iff.rfl)
    rintro e w5 ⟨rfl, _, rfl⟩
    go_wp2
    go_ret
    exact ⟨rfl, below_drewN (((below_drewN hb r).trans (hb3.mono (by have := hb.size; simpa using this))).trans (hb4.mono (by have h1 := hb.size; have h2 := hb3.size; simp at h2; omega))) _⟩
  · have hx0 : (x == 0) = false := by rw [beq_eq_false_iff_ne]; exact h
    go_wp2_with fail
    refine (setBegun29 _).mono ?_
    rintro e w4 ⟨rfl, hb4⟩
    go_wp2_with fail
    refine (setIs30 out [] y x A1 none n1 c1 0 0 w4 w4.heap.size w4.heap.size (by omega) (by decide) (((Rds.of_own hown).drewN r).below hb4 (Nat.le_refl _) |>.more (by have h2 := hb4.size; simp at h2; omega)) (Rds.nil_ _ _ _ _)
      (by rw [HY.out, if_neg h, if_neg h]) ?_ (fun hy => H2.out hy)).mono ?_
    · intro hy; rw [HY.out, if_neg h] at hy; exact absurd hy h
    rintro e w5 ⟨rfl, _, rfl⟩
    go_wp2
    go_ret
    exact ⟨rfl, below_drewN ((below_drewN hb r).trans (hb4.mono (by have := hb.size; simpa using this))) _⟩
end Go.Proofs.Ytehlijnhhbdbhaa
