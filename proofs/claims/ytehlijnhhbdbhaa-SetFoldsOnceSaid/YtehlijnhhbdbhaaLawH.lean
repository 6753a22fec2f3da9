/- SetFolds, SetFoldsOnce: walked. -/
import Derived.Test.YtehlijnhhbdbhaaFoldU
import Derived.Test.YtehlijnhhbdbhaaSetOps
namespace Go.Proofs.Ytehlijnhhbdbhaa
open Go.RowKit
set_option linter.unusedVariables false
set_option maxRecDepth 100000 in
set_option maxHeartbeats 1000000 in
theorem lawFolds (a : List (Int × Int)) (A : Option Addr) (n c : Nat) (w : World) (hnc : n ≤ c) (hc : c ≤ maxLen) (ha : Rds w w.heap.size 2 A n (rngs a)) :
    Calls Try.prog 23 #[.slice A n c] w fun e w' => e = .returned (.bool true) ∧ Below w.heap.size w w' := by
  have HA := Lib.hid ha.rngs_len
  obtain ⟨x, hx⟩ : ∃ x, chk a = x := ⟨_, rfl⟩
  have HX := Lib.hid hx
  have C1 := Lib.hid (fold67 a A n c w hnc hc ha)
  have C2 := Lib.hid (fun w' (hb : Below w.heap.size w w') => checkSet_any a A n c w' w.heap.size (by omega) (ha.below hb (Nat.le_refl _)))
  rw [hx] at C1 C2
  clear hx
  go_enter Try.func23, Try.ntmps23
  go_wp2_with fail
  refine C1.out.mono ?_
  rintro e w1 ⟨out0, h0, out, A1, n1, c1, rfl, h1, h2, hown, hb⟩
  obtain ⟨y, hy⟩ : ∃ y, y = (if x = 0 then (if 400 < out0.length then 2 else 0) else x) := ⟨_, rfl⟩
  rw [← hy] at h1 h2 ⊢
  have H0 := Lib.hid h0
  have H1 := Lib.hid h1
  have H2 := Lib.hid h2
  have HY := Lib.hid hy
  have hlo := Lib.hid (own_rngs_len hown)
  clear h0 h1 h2 hy
  obtain ⟨_, _, hv1, q1, q2⟩ := own_slice hown
  injection hv1 with e1 e2 e3
  subst e1 e3
  clear e2
  go_wp2_with fail
  refine (C2.out w1 hb).mono ?_
  rintro e w2 ⟨rfl, r, rfl⟩
  by_cases h : x = 0
  · subst h
    go_wp2_with fail
    have hk := (chk_ok a).1 HX.out
    have hnA := HA.out
    refine (foldOf68 a A n c _ (by omega) hc hk.2.1 (((ha.below hb (Nat.le_refl _)).drewN r).more (by have := hb.size; simpa using this))).mono ?_
    rintro e w3 ⟨want, hset, hlen, A3, n3, c3, rfl, hown3, hb3⟩
    have HE := Lib.hid (IsSet.eq (H0.out (by trivial)).1 hset (fun p => Iff.rfl))
    have HW := Lib.hid (own_rngs_len hown3)
    obtain ⟨_, _, hv3, r1, r2⟩ := own_slice hown3
    injection hv3 with e1 e2 e3
    subst e1 e3
    clear e2 hset hlen
    go_wp2_with fail
    refine (setBegun29 w3).mono ?_
    rintro e w4 ⟨rfl, hb4⟩
    go_wp2_with fail
    refine (setIs30 out want y 0 A1 A3 n1 c1 n3 c3 w4 w4.heap.size w4.heap.size (by omega) (by omega) ((((Rds.of_own hown).drewN r).below hb3 (Nat.le_refl _)).below hb4 (by have := hb3.size; simpa using this) |>.more (by have h1 := hb3.size; have h2 := hb4.size; simp at h1; omega)) (((Rds.of_own hown3).below hb4 (Nat.le_refl _)).more hb4.size)
      (by rw [HY.out, HE.out]; simp) ?_ (fun hy => H2.out hy)).mono ?_
    · intro hy; rw [← HE.out]; exact IsSet.eq (H1.out hy).1 (H0.out (by trivial)).1 (fun p => Iff.rfl)
    rintro e w5 ⟨rfl, _, rfl⟩
    go_wp2
    go_ret
    exact ⟨rfl, below_drewN (((below_drewN hb r).trans (hb3.mono (by have := hb.size; simpa using this))).trans (hb4.mono (by have h1 := hb.size; have h2 := hb3.size; simp at h2; omega))) _⟩
  · have hx0 : (x == 0) = false := by rw [beq_eq_false_iff_ne]; exact h
    go_wp2_with fail
    refine (setBegun29 _).mono ?_
    rintro e w4 ⟨rfl, hb4⟩
    go_wp2_with fail
    refine (setIs30 out [] y x A1 none n1 c1 0 0 w4 w4.heap.size w4.heap.size (by omega) (by decide) (((Rds.of_own hown).drewN r).below hb4 (Nat.le_refl _) |>.more (by have h2 := hb4.size; simp at h2; omega)) (Rds.nil_ _ _ _ _)
      (by rw [HY.out, if_neg h, if_neg h]) ?_ (fun hy => H2.out hy)).mono ?_
    · intro hy; rw [HY.out, if_neg h] at hy; exact absurd hy h
    rintro e w5 ⟨rfl, _, rfl⟩
    go_wp2
    go_ret
    exact ⟨rfl, below_drewN ((below_drewN hb r).trans (hb4.mono (by have := hb.size; simpa using this))) _⟩
theorem sameS_selfH (l : List (Int × Int)) : sameS l l = true := by simp [sameS]
theorem chk2_mkH {a b : List (Int × Int)} (h : chk a = 0) (k : chk b = 0) : chk2 a b = 0 := by unfold chk2; rw [if_pos h]; exact k
theorem once_end {a x y l : List (Int × Int)} {x1 x2 x3 : Int} (F1 : SFact (FoldP a) (chk a) x x1) (F2 : SFact (FoldP x) (chk x) y x2) (F3 : SFact (fun p => mem a p ∧ ¬ mem x p) (chk2 a x) l x3) (h1 : x1 = 0) :
    x2 = 0 ∧ x3 = 0 ∧ sameS x y = true ∧ l = [] := by
  obtain ⟨s1, c1, ca⟩ := F1.good h1
  have hx := (chk_ok x).1 c1
  have ha := (chk_ok a).1 ca
  obtain ⟨e2, rfl⟩ := F2.of_set c1 (s := x) ⟨hx.2, fun q => (s1.2 q).trans (foldP_twice (fun q hq => ha.2.mem_range hq) s1.2 q).symm⟩ hx.1
  obtain ⟨e3, rfl⟩ := F3.of_set (chk2_mkH ca c1) (s := []) ⟨Can.nil, fun q => ⟨fun h => absurd h (mem_nil q), fun ⟨h, k⟩ => absurd ((s1.2 q).2 (.inl h)) k⟩⟩ (by simp)
  exact ⟨e2, e3, sameS_selfH _, rfl⟩
set_option maxRecDepth 100000 in
set_option maxHeartbeats 1000000 in
theorem lawFoldsOnce (a : List (Int × Int)) (A : Option Addr) (n c : Nat) (w : World) (hnc : n ≤ c) (hc : c ≤ maxLen) (ha : Rds w w.heap.size 2 A n (rngs a)) :
    Calls Try.prog 24 #[.slice A n c] w fun e w' => e = .returned (.bool true) ∧ Below w.heap.size w w' := by
  have Ra := Lib.hid ha
  clear ha
  go_enter Try.func24, Try.ntmps24
  go_wp2_with fail
  refine (setBegun29 _).mono ?_
  rintro e w1 ⟨rfl, hb⟩
  have Ra := Lib.hid (Ra.out.next hb)
  have b1 := hb
  clear hb
  go_wp2_with fail
  refine (foldS a A n c w1 hnc hc Ra.out).mono ?_
  rintro e w2 ⟨x, Ax, nx, cx, x1, rfl, F1, hx, kx, Lx, Rx, hb⟩
  have Ra := Lib.hid (Ra.out.next hb)
  have b2 := below_next b1 hb
  clear hb b1
  by_cases h1 : x1 = 0
  · subst h1
    go_wp2_with fail
    refine (foldS x Ax nx cx w2 hx kx Rx.out).mono ?_
    rintro e w3 ⟨y, Ay, ny, cy, x2, rfl, F2, hy, ky, Ly, Ry, hb⟩
    have Ra := Lib.hid (Ra.out.next hb)
    have Rx := Lib.hid (Rx.out.next hb)
    have b3 := below_next b2 hb
    clear hb b2
    go_wp2_with fail
    refine (lessS a x A Ax n c nx cx w3 hnc hc hx kx Ra.out Rx.out).mono ?_
    rintro e w4 ⟨l, Al, nl, cl, x3, rfl, F3, hl, kl, Ll, Rl, hb⟩
    obtain ⟨z1, z2, z3, z4⟩ := once_end F1.out F2.out F3.out rfl
    subst z1 z2
    have hnl : nl = 0 := by rw [← Ll.out, z4]; rfl
    subst hnl
    have Rx := Lib.hid (Rx.out.next hb)
    have Ry := Lib.hid (Ry.out.next hb)
    have b4 := below_next b3 hb
    clear hb b3 z4
    go_wp2_with fail
    refine (sameS_ x y true z3 Ax Ay nx ny cx cy w4 (by omega) (by omega) Rx.out Ry.out).mono ?_
    rintro e w5 ⟨rfl, hb⟩
    have b5 := below_next b4 hb
    clear b4 hb
    go_wp2
    go_ret
    exact ⟨rfl, b5⟩
  · have hx := bn h1
    clear h1
    go_wp2
    go_ret
    exact ⟨rfl, b2⟩
end Go.Proofs.Ytehlijnhhbdbhaa
