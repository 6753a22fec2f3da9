/- FoldOrbits, FoldLeast: walked. -/
import Derived.Test.YtehlijnhhbdbhaaFoldO
import Derived.Test.YtehlijnhhbdbhaaFoldK
namespace Go.Proofs.Ytehlijnhhbdbhaa
open Go.RowKit
set_option linter.unusedVariables false
theorem sameI_self (l : List Int) : sameI l l = true := by simp [sameI]
/-- a slice of the call's own, as a reading -/
theorem own_ints_rds {w' : World} {B n : Nat} {v : Value} {l : List Int} (h : w'.ownsRow B 3 1 v n (ints l)) : ∃ A c, v = .slice A n c ∧ n ≤ c ∧ c ≤ maxLen ∧ Hid (l.length = n) ∧ Hid (Rds w' w'.heap.size 1 A n (ints l)) := by
  obtain ⟨A, c, hv, q1, q2⟩ := own_slice h
  subst hv
  exact ⟨A, c, rfl, q1, q2, Lib.hid (own_ints_len h).symm, Lib.hid (Rds.of_own h)⟩
set_option maxRecDepth 100000 in
set_option maxHeartbeats 2000000 in
theorem lawOrbits (p : Int) (w : World) : Calls Try.prog 18 #[.int .i64 p] w fun e w' => e = .returned (.bool true) ∧ Below w.heap.size w w' := by
  by_cases hp : 0 ≤ p ∧ p ≤ 1114111
  · obtain ⟨h0, h1⟩ := hp
    have HP := Lib.hid (show (decide (0 ≤ p) && decide (p ≤ 1114111)) = true by simp; omega)
    have C1 := Lib.hid (orbit60 p w h0 h1)
    have C2 := Lib.hid (fun w => least61 p w h0 h1)
    have C3 := Lib.hid (fun w => orbitOf62 p w h0 h1)
    clear h0 h1
    go_enter Try.func18, Try.ntmps18
    go_wp2_with fail
    refine C1.out.mono ?_
    rintro e w1 ⟨A, n, c, rfl, q1, q2, HL, R1, hb1⟩
    go_wp2_with fail
    refine (C2.out w1).mono ?_
    rintro e w2 ⟨rfl, hb2⟩
    have R2 := Lib.hid (R1.out.next hb2)
    have b2 := below_next hb1 hb2
    clear hb1 hb2
    go_wp2_with fail
    refine (isPoint_of p true w2 HP.out).mono ?_
    rintro e w' ⟨rfl, rfl⟩
    go_wp2_with fail
    refine (C3.out _).mono ?_
    rintro e w3 ⟨A3, n3, c3, rfl, hown, hb3⟩
    obtain ⟨_, _, hv, q3, q4, HL3, R3⟩ := own_ints_rds hown
    injection hv with e1 e2 e3
    subst e1 e3
    clear e2 hown
    have R3' := Lib.hid (R2.out.next hb3)
    have b3 := below_next b2 hb3
    clear hb3 b2
    go_wp2_with fail
    refine (foldBegun58 _).mono ?_
    rintro e w4 ⟨rfl, hb4⟩
    have R4 := Lib.hid (R3.out.next hb4)
    have R4' := Lib.hid (R3'.out.next hb4)
    have b4 := below_next b3 hb4
    clear hb4 b3
    go_wp2_with fail
    refine (sameInts63 (orb p) (orb p) A A3 n n3 c c3 w4 (by omega) (by omega) R4'.out R4.out).mono ?_
    rintro e w5 ⟨rfl, hb5⟩
    rw [sameI_self]
    have hn : 0 < n3 := by rw [← HL3.out]; exact orb_ne p
    obtain ⟨x1, off1, hl1, hA, hx1, hc1⟩ := (R4.out.next hb5).int_at (k := 0) hn
    subst hA
    rw [lst_get] at hc1
    have hn2 : (0 : Int) < (n3 : Int) := by omega
    simp at hc1
    have b5 := below_next b4 hb5
    go_wp2
    go_ret
    exact ⟨rfl, b5⟩
  · have HP := Lib.hid (show (decide (0 ≤ p) && decide (p ≤ 1114111)) = false by rw [Bool.eq_false_iff]; simp; omega)
    have C1 := Lib.hid (orbit60_no p w hp)
    have C2 := Lib.hid (least61_no p w hp)
    clear hp
    go_enter Try.func18, Try.ntmps18
    go_wp2_with fail
    refine C1.out.mono ?_
    rintro e w' ⟨rfl, rfl⟩
    go_wp2_with fail
    refine C2.out.mono ?_
    rintro e w' ⟨rfl, rfl⟩
    go_wp2_with fail
    refine (isPoint_of p false _ HP.out).mono ?_
    rintro e w' ⟨rfl, rfl⟩
    go_wp2_with fail
    refine (foldBegun58 _).mono ?_
    rintro e w4 ⟨rfl, hb4⟩
    go_wp2
    go_ret
    exact ⟨rfl, hb4⟩
theorem lst_mem (p : Int) : lst p ∈ orb p := by
  unfold lst
  have := orb_ne p
  cases h : orb p with
  | nil => rw [h] at this; cases this
  | cons x l => simp
theorem lst_le (p : Int) : lst p ≤ p := by
  have hm := self_orb p
  have hs := orb_lt p
  unfold lst
  cases h : orb p with
  | nil => rw [h] at hm; cases hm
  | cons x l =>
    rw [h] at hm hs
    rcases List.mem_cons.1 hm with e | e
    · simp [e]
    · have := (List.pairwise_cons.1 hs).1 p e
      simp; omega
theorem lst_rng {p : Int} (h0 : 0 ≤ p) (h1 : p ≤ 1114111) : 0 ≤ lst p ∧ lst p ≤ 1114111 := ((orb_facts p h0 h1).2 _ (lst_mem p)).1
theorem lst_lst {p : Int} (h0 : 0 ≤ p) (h1 : p ≤ 1114111) : lst (lst p) = lst p := by
  have := ((orb_facts p h0 h1).2 _ (lst_mem p)).2
  show (orb (lst p)).headD 0 = lst p
  rw [this]; rfl
theorem lst_eq {p q : Int} (h0 : 0 ≤ p) (h1 : p ≤ 1114111) (k0 : 0 ≤ q) (k1 : q ≤ 1114111) : (lst p == lst q) = hasI (orb p) q := by
  rw [Bool.eq_iff_iff, beq_iff_eq, hasI_iff]
  constructor
  · intro e
    have a := ((orb_facts p h0 h1).2 _ (lst_mem p)).2
    have b := ((orb_facts q k0 k1).2 _ (lst_mem q)).2
    rw [← a, e, b]; exact self_orb q
  · intro hq
    have := ((orb_facts p h0 h1).2 q hq).2
    show (orb p).headD 0 = (orb q).headD 0
    rw [this]
set_option maxRecDepth 100000 in
set_option maxHeartbeats 2000000 in
theorem lawLeast (p q : Int) (w : World) : Calls Try.prog 19 #[.int .i64 p, .int .i64 q] w fun e w' => e = .returned (.bool true) ∧ Below w.heap.size w w' := by
  by_cases hp : 0 ≤ p ∧ p ≤ 1114111
  · by_cases hq : 0 ≤ q ∧ q ≤ 1114111
    · obtain ⟨h0, h1⟩ := hp
      obtain ⟨k0, k1⟩ := hq
      have C1 := Lib.hid (fun w => least61 p w h0 h1)
      have C2 := Lib.hid (fun w => least61 q w k0 k1)
      have C3 := Lib.hid (fun w => least61 (lst p) w (lst_rng h0 h1).1 (lst_rng h0 h1).2)
      have C4 := Lib.hid (fun w => orbit60 p w h0 h1)
      rw [lst_lst h0 h1] at C3
      have HE := Lib.hid (lst_eq h0 h1 k0 k1)
      have hle := lst_le p
      clear h0 h1 k0 k1
      obtain ⟨x, hx⟩ : ∃ x, x = lst p := ⟨_, rfl⟩
      obtain ⟨y, hy⟩ : ∃ y, y = lst q := ⟨_, rfl⟩
      rw [← hx] at C1 C3 HE hle
      rw [← hy] at C2 HE
      clear hx hy
      go_enter Try.func19, Try.ntmps19
      go_wp2_with fail
      refine (foldBegun58 _).mono ?_
      rintro e w1 ⟨rfl, b1⟩
      go_wp2_with fail
      refine (C1.out _).mono ?_
      rintro e w2 ⟨rfl, hb⟩
      have b2 := below_next b1 hb
      clear b1 hb
      go_wp2_with fail
      refine (C2.out _).mono ?_
      rintro e w3 ⟨rfl, hb⟩
      have b3 := below_next b2 hb
      clear b2 hb
      go_wp2_with fail
      refine (C3.out _).mono ?_
      rintro e w4 ⟨rfl, hb⟩
      have b4 := below_next b3 hb
      clear b3 hb
      go_wp2_with fail
      refine (C4.out _).mono ?_
      rintro e w5 ⟨A, n, c, rfl, q1, q2, HL, R1, hb⟩
      have b5 := below_next b4 hb
      clear b4 hb
      go_wp2_with fail
      refine (hasInt64 (orb p) q A n c w5 (by omega) R1.out).mono ?_
      rintro e w' ⟨rfl, rfl⟩
      rw [← HE.out]
      go_wp2
      go_ret
      exact ⟨rfl, b5⟩
    · obtain ⟨h0, h1⟩ := hp
      have C1 := Lib.hid (fun w => least61 p w h0 h1)
      have C2 := Lib.hid (fun w => least61_no q w hq)
      clear h0 h1 hq
      go_enter Try.func19, Try.ntmps19
      go_wp2_with fail
      refine (foldBegun58 _).mono ?_
      rintro e w1 ⟨rfl, b1⟩
      go_wp2_with fail
      refine (C1.out _).mono ?_
      rintro e w2 ⟨rfl, hb⟩
      have b2 := below_next b1 hb
      clear b1 hb
      go_wp2_with fail
      refine (C2.out _).mono ?_
      rintro e w' ⟨rfl, rfl⟩
      go_wp2
      go_ret
      exact ⟨rfl, b2⟩
  · have C1 := Lib.hid (fun w => least61_no p w hp)
    clear hp
    by_cases hq : 0 ≤ q ∧ q ≤ 1114111
    · obtain ⟨k0, k1⟩ := hq
      have C2 := Lib.hid (fun w => least61 q w k0 k1)
      clear k0 k1
      go_enter Try.func19, Try.ntmps19
      go_wp2_with fail
      refine (foldBegun58 _).mono ?_
      rintro e w1 ⟨rfl, b1⟩
      go_wp2_with fail
      refine (C1.out _).mono ?_
      rintro e w' ⟨rfl, rfl⟩
      go_wp2_with fail
      refine (C2.out _).mono ?_
      rintro e w2 ⟨rfl, hb⟩
      have b2 := below_next b1 hb
      clear b1 hb
      go_wp2
      go_ret
      exact ⟨rfl, b2⟩
    · have C2 := Lib.hid (fun w => least61_no q w hq)
      clear hq
      go_enter Try.func19, Try.ntmps19
      go_wp2_with fail
      refine (foldBegun58 _).mono ?_
      rintro e w1 ⟨rfl, b1⟩
      go_wp2_with fail
      refine (C1.out _).mono ?_
      rintro e w' ⟨rfl, rfl⟩
      go_wp2_with fail
      refine (C2.out _).mono ?_
      rintro e w' ⟨rfl, rfl⟩
      go_wp2
      go_ret
      exact ⟨rfl, b1⟩
end Go.Proofs.Ytehlijnhhbdbhaa
