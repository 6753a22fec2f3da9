/-
  What is wrong with ranges, by the program: walked.
-/
import Derived.Test.YtihodjfnhkihiaaSetD
namespace Go.Proofs.Ytihodjfnhkihiaa
open Go.RowKit
set_option linter.unusedVariables false
set_option maxHeartbeats 400000 in
theorem isPoint88 (p : Int) (b : Bool) (w : World) (h : (decide (0 ≤ p) && decide (p ≤ 1114111)) = b) : Calls Try.prog 69 #[.int .i64 p] w fun e w' => e = .returned (.bool b) ∧ w' = w := by
  subst h
  go_enter Try.func69, Try.ntmps69
  go_wp2
  all_goals (go_ret; refine ⟨ret_bool ?_, rfl⟩; simp_all; try omega)
set_option maxHeartbeats 1000000 in
theorem bad116 (x y : Int) (w : World) : Calls Try.prog 68 #[.agg #[.int .i64 x, .int .i64 y]] w fun e w' => e = .returned (.bool (!okR (x, y))) ∧ Below w.heap.size w w' := by
  cases hok : okR (x, y)
  · rcases okR_false hok with h | ⟨h, h2⟩ | ⟨h, h2, h3⟩
    · have H := Lib.hid h
      clear h hok
      go_enter Try.func68, Try.ntmps68
      go_wp2_with (first | (go_at_call 69; (with_reducible refine (isPoint88 x false _ H.out).mono ?_); rintro e w' ⟨rfl, rfl⟩))
      go_ret
      exact ⟨rfl, by go_grown⟩
    · have H := Lib.hid h
      have H2 := Lib.hid h2
      clear h h2 hok
      go_enter Try.func68, Try.ntmps68
      go_wp2_with (first | (go_at_call 69; (with_reducible refine (isPoint88 x true _ H.out).mono ?_); rintro e w' ⟨rfl, rfl⟩) | (go_at_call 69; (with_reducible refine (isPoint88 y false _ H2.out).mono ?_); rintro e w' ⟨rfl, rfl⟩))
      go_ret
      exact ⟨rfl, by go_grown⟩
    · have H := Lib.hid h
      have H2 := Lib.hid h2
      clear h h2 hok
      simp only at h3
      go_enter Try.func68, Try.ntmps68
      go_wp2_with (first | (go_at_call 69; (with_reducible refine (isPoint88 x true _ H.out).mono ?_); rintro e w' ⟨rfl, rfl⟩) | (go_at_call 69; (with_reducible refine (isPoint88 y true _ H2.out).mono ?_); rintro e w' ⟨rfl, rfl⟩))
      go_ret
      exact ⟨rfl, by go_grown⟩
  · obtain ⟨h, h2, h3⟩ := okR_true hok
    have H := Lib.hid h
    have H2 := Lib.hid h2
    clear h h2 hok
    simp only at h3
    go_enter Try.func68, Try.ntmps68
    go_wp2_with (first | (go_at_call 69; (with_reducible refine (isPoint88 x true _ H.out).mono ?_); rintro e w' ⟨rfl, rfl⟩) | (go_at_call 69; (with_reducible refine (isPoint88 y true _ H2.out).mono ?_); rintro e w' ⟨rfl, rfl⟩))
    go_ret
    exact ⟨ret_bool (by simp; omega), by go_grown⟩
theorem bad_of (r : Int × Int) (b : Bool) (h : okR r = !b) (w : World) : Calls Try.prog 68 #[.agg #[.int .i64 r.1, .int .i64 r.2]] w fun e w' => e = .returned (.bool b) ∧ Below w.heap.size w w' := by
  have := bad116 r.1 r.2 w
  rwa [show (r.1, r.2) = r from rfl, h, Bool.not_not] at this
theorem all_okR_snoc (a : List (Int × Int)) (k : Nat) (hk : k < a.length) (h : (a.take k).all okR = true) (hr : okR a[k] = true) : (a.take (k + 1)).all okR = true := by
  rw [take_snoc' a k hk, List.all_append, h]; simp [hr]
def idxBad (a : List (Int × Int)) : Int := if a.all okR then -1 else 0
set_option maxHeartbeats 1000000 in
theorem index132 (a : List (Int × Int)) (A : Option Addr) (n c : Nat) (w : World) (hn : n ≤ maxLen) (ha : Rds w w.heap.size 2 A n (rngs a)) :
    Calls Try.prog 67 #[.slice A n c, .func (.func 68) #[] #[]] w fun e w' => (∃ i : Int, e = .returned (.int .i64 i) ∧ decide (0 ≤ i) = !a.all okR) ∧ Below w.heap.size w w' := by
  have HA := Lib.hid ha.rngs_len
  unfold maxLen at hn
  go_enter Try.func67, Try.ntmps67
  go_wp2_with fail
  go_loopw [8] (fun i wr => ∃ k : Nat, k ≤ n ∧ i = .int .i64 k ∧ (a.take k).all okR = true ∧ Below w.heap.size w wr) (fun i _ => n - (intOf i).toNat)
  case atStart => exact ⟨0, Nat.zero_le _, rfl, by simp, Below.refl _ _⟩
  case round =>
    obtain ⟨k, hk, rfl, hall, hB⟩ := hrel
    have HALL := Lib.hid hall
    clear hall
    by_cases hlt : k < n
    · obtain ⟨b1, off1, hl1, hA, hb1, hc1, hd1⟩ := (ha.below hB (Nat.le_refl _)).rng_at hlt
      subst hA
      have HS := Lib.hid (all_okR_snoc a k hl1 HALL.out)
      have HBAD := Lib.hid (fun (h : okR a[k] = false) => show a.all okR = false from List.all_eq_false.2 ⟨a[k], List.getElem_mem hl1, by simp [h]⟩)
      obtain ⟨p, hp⟩ : ∃ p, p = a[k] := ⟨_, rfl⟩
      rw [← hp] at hc1 hd1 HS HBAD
      clear hp
      cases hok : okR p
      · have HOK := Lib.hid hok
        clear hok
        go_wp2_with (go_at_call 68; refine (bad_of p true (by rw [HOK.out]; rfl) _).mono ?_; rintro e w1 ⟨rfl, hb⟩)
        go_ret
        exact ⟨⟨k, rfl, by rw [HBAD.out HOK.out]; simp⟩, hB.trans (hb.mono hB.size)⟩
      · have HOK := Lib.hid hok
        clear hok
        go_wp2_with (go_at_call 68; refine (bad_of p false (by rw [HOK.out]; rfl) _).mono ?_; rintro e w1 ⟨rfl, hb⟩)
        go_roundw
        case rel => exact ⟨k + 1, by omega, by go_num, HS.out HOK.out, hB.trans (hb.mono hB.size)⟩
        case measure => simp [intOf]; omega
    · obtain rfl : k = n := by omega
      go_wp2
      go_ret
      refine ⟨⟨-1, rfl, ?_⟩, hB⟩
      have := HALL.out
      rw [List.take_of_length_le (by rw [HA.out]; exact Nat.le_refl _)] at this
      rw [this]; rfl
set_option maxHeartbeats 1000000 in
theorem contains99 (a : List (Int × Int)) (A : Option Addr) (n c : Nat) (w : World) (hn : n ≤ maxLen) (ha : Rds w w.heap.size 2 A n (rngs a)) :
    Calls Try.prog 45 #[.slice A n c, .func (.func 68) #[] #[]] w fun e w' => e = .returned (.bool (!a.all okR)) ∧ Below w.heap.size w w' := by
  go_enter Try.func45, Try.ntmps45
  go_wp2_with fail
  refine (index132 a A n c w hn ha).mono ?_
  rintro e w' ⟨⟨i, rfl, hi⟩, hb⟩
  have HI := Lib.hid hi
  clear hi
  go_wp2
  go_ret
  exact ⟨ret_bool HI.out, hb⟩
set_option maxHeartbeats 1000000 in
theorem ranges71 (a : List (Int × Int)) (e : Int) (he : rangesE a = e) (A : Option Addr) (n c : Nat) (w : World) (hn : n ≤ maxLen) (ha : Rds w w.heap.size 2 A n (rngs a)) :
    Calls Try.prog 50 #[.slice A n c] w fun e' w' => e' = .returned (.int .i64 e) ∧ Below w.heap.size w w' := by
  subst he
  have HA := Lib.hid ha.rngs_len
  have hn' := hn
  unfold maxLen at hn
  by_cases hbig : 400 < n
  · have HE := Lib.hid (rangesE_many (a := a) (by rw [HA.out]; exact hbig))
    go_enter Try.func50, Try.ntmps50
    go_wp2
    go_ret
    exact ⟨ret_int HE.out.symm, Below.refl _ _⟩
  · cases hall : a.all okR
    · have HALL := Lib.hid hall
      have HE := Lib.hid (show rangesE a = 3 by simp [rangesE, hall, HA.out]; omega)
      have C := Lib.hid (fun w ha => contains99 a A n c w hn' ha)
      rw [hall] at C
      clear hall
      go_enter Try.func50, Try.ntmps50
      go_wp2_with (go_at_call 45; refine (C.out w ha).mono ?_; rintro e w' ⟨rfl, hb⟩)
      go_ret
      exact ⟨ret_int HE.out.symm, hb⟩
    · have HALL := Lib.hid hall
      have HE := Lib.hid (show rangesE a = 0 by simp [rangesE, hall, HA.out]; omega)
      have C := Lib.hid (fun w ha => contains99 a A n c w hn' ha)
      rw [hall] at C
      clear hall
      go_enter Try.func50, Try.ntmps50
      go_wp2_with (go_at_call 45; refine (C.out w ha).mono ?_; rintro e w' ⟨rfl, hb⟩)
      go_ret
      exact ⟨ret_int HE.out.symm, hb⟩
end Go.Proofs.Ytihodjfnhkihiaa
