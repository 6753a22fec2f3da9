/-
  CheckSet and CheckSets of the reference, walked.
-/
import Derived.Test.YtihodjfnhkihiaaSetC
namespace Go.Proofs.Ytihodjfnhkihiaa
open Go.RowKit
set_option linter.unusedVariables false
theorem rightRanges_of (a : List (Int × Int)) (e : Int) (he : rangesE a = e) (A : Option Addr) (n c : Nat) (w : World) (X : Nat) (hn : n ≤ maxLen) (ha : Rds w X 2 A n (rngs a)) :
    Calls Try.prog 24 #[.slice A n c] w fun e' w' => e' = .returned (.int .i64 e) ∧ ∃ q, w' = w.drewN q := by
  rw [← he]; exact rightRanges_any a A n c w X hn ha
theorem chk_ranges {a : List (Int × Int)} (h : rangesE a ≠ 0) : chk a = rangesE a := by
  unfold chk rangesE at *
  split
  · rfl
  · split
    · rfl
    · rename_i h1 h2; rw [if_neg h1, if_neg h2] at h; exact absurd rfl h
theorem chk_gap {a : List (Int × Int)} (h : rangesE a = 0) (k : Nat) (hk : k + 1 < a.length) (hg : ¬ (a[k]).2 + 2 ≤ (a[k + 1]).1) : chk a = 4 := by
  obtain ⟨h1, h2⟩ := (rangesE_ok a).1 h
  have h3 : a.all okR = true := List.all_eq_true.2 h2
  have h4 : gapB a = false := by
    cases hh : gapB a with
    | false => rfl
    | true => exact absurd ((gapB_iff a).1 hh k hk) hg
  simp [chk, h3, h4]; omega
theorem chk_fine {a : List (Int × Int)} (h : rangesE a = 0) (hg : ∀ i, (hi : i + 1 < a.length) → (a[i]).2 + 2 ≤ (a[i + 1]).1) : chk a = 0 := by
  obtain ⟨h1, h2⟩ := (rangesE_ok a).1 h
  have h3 : a.all okR = true := List.all_eq_true.2 h2
  simp [chk, h3, (gapB_iff a).2 hg]; omega
theorem okR_bounds {a : List (Int × Int)} (h : rangesE a = 0) (k : Nat) (hk : k < a.length) : 0 ≤ (a[k]).1 ∧ (a[k]).1 ≤ 1114111 ∧ 0 ≤ (a[k]).2 ∧ (a[k]).2 ≤ 1114111 := by
  have := (okR_iff _).1 (((rangesE_ok a).1 h).2 _ (List.getElem_mem hk))
  omega
def GapTo (a : List (Int × Int)) (k : Nat) : Prop := ∀ i, (hi : i + 1 < a.length) → i + 1 < k → (a[i]).2 + 2 ≤ (a[i + 1]).1
theorem GapTo.one (a : List (Int × Int)) : GapTo a 1 := fun i hi h => by omega
theorem GapTo.succ {a : List (Int × Int)} {k : Nat} (h : GapTo a (k + 1)) (hk : k + 1 < a.length) (hg : (a[k]).2 + 2 ≤ (a[k + 1]).1) : GapTo a (k + 2) := by
  intro i hi hlt
  by_cases e : i = k
  · subst e; exact hg
  · exact h i hi (by omega)
set_option maxHeartbeats 2000000 in
theorem checkSet_any (a : List (Int × Int)) (A : Option Addr) (n c : Nat) (w : World) (X : Nat) (hn : n ≤ maxLen) (ha : Rds w X 2 A n (rngs a)) :
    Calls Try.prog 7 #[.slice A n c] w fun e w' => e = .returned (.int .i64 (chk a)) ∧ ∃ q, w' = w.drewN q := by
  have HA := Lib.hid ha.rngs_len
  have hnm := hn
  unfold maxLen at hn
  by_cases hE : rangesE a = 0
  · have HE := Lib.hid hE
    clear hE
    go_enter Try.func7, Try.ntmps7
    go_wp2_with (go_at_call 24; refine (rightRanges_of a 0 HE.out _ _ _ _ X hnm ha).mono ?_; rintro e w' ⟨rfl, q0, rfl⟩)
    go_loopw [3, 4] (fun e i wr => ∃ (k : Nat), i = .int .i64 (k + 1 : Nat) ∧ k ≤ n ∧ (∃ q, wr = w.drewN q) ∧ ((e = .int .i64 0 ∧ GapTo a (k + 1)) ∨ (e = .int .i64 4 ∧ chk a = 4))) (fun _ i _ => n + 1 - (intOf i).toNat)
    case atStart => exact ⟨0, rfl, Nat.zero_le _, ⟨q0, rfl⟩, .inl ⟨rfl, GapTo.one a⟩⟩
    case round =>
      obtain ⟨k, rfl, hk, ⟨q, rfl⟩, ⟨rfl, hg⟩ | ⟨rfl, hg⟩⟩ := hrel
      · have HG := Lib.hid hg
        clear hg
        by_cases hlt : k + 1 < n
        · obtain ⟨b1, off1, hl1, hA, hb1, hc1, hd1⟩ := ha.rng_at (k := k) (by omega)
          obtain ⟨b2, off2, hl2, hA2, hb2, hc2, hd2⟩ := ha.rng_at hlt
          subst hA
          injection hA2 with hA2
          injection hA2 with e1 e2
          subst e1 e2
          have bx := okR_bounds HE.out k hl1
          have by_ := okR_bounds HE.out (k + 1) hl2
          have HSucc := Lib.hid (fun h => HG.out.succ hl2 h)
          have HBad := Lib.hid (fun h => chk_gap HE.out k hl2 h)
          obtain ⟨p, hp⟩ : ∃ p, p = a[k] := ⟨_, rfl⟩
          obtain ⟨q', hq⟩ : ∃ q, q = a[k + 1] := ⟨_, rfl⟩
          rw [← hp] at hc1 hd1 bx HSucc HBad
          rw [← hq] at hc2 hd2 by_ HSucc HBad
          clear hp hq
          obtain ⟨x, y⟩ := p
          obtain ⟨x', y'⟩ := q'
          simp only at hc1 hd1 hc2 hd2 bx by_ HSucc HBad
          have i1 : (0 : Int) ≤ (k : Int) := by omega
          have i2 : (k : Int) + 1 < (n : Int) := by omega
          have w1 : IntKind.i64.wrap ((k : Int) + 1 - 1) = (k : Int) := by rw [IntWalk.i64_in _ (by omega)]; omega
          have w2 : IntKind.i64.wrap (y + 2) = y + 2 := IntWalk.i64_in _ (by omega)
          have W1 := Lib.hid w1
          have W2 := Lib.hid w2
          clear w1 w2
          by_cases hgap : x' < y + 2
          · go_wp2_with fail
            have w1 := W1.out
            have w2 := W2.out
            go_quiet (fail)
            clear w1 w2
            go_wp2
            go_roundw
            case rel => exact ⟨k + 1, by go_num, by omega, ⟨_, rfl⟩, .inr ⟨rfl, HBad.out (by omega)⟩⟩
            case measure => simp [intOf]; omega
          · go_wp2_with fail
            have w1 := W1.out
            have w2 := W2.out
            go_quiet (fail)
            clear w1 w2
            go_wp2
            go_roundw
            case rel => exact ⟨k + 1, by go_num, by omega, ⟨_, rfl⟩, .inl ⟨rfl, HSucc.out (by omega)⟩⟩
            case measure => simp [intOf]; omega
        · go_wp2
          go_ret
          exact ⟨ret_int (chk_fine HE.out (fun i hi => HG.out i hi (by rw [HA.out] at hi; omega))).symm, q, rfl⟩
      · have HG := Lib.hid hg
        clear hg
        by_cases hlt : k + 1 < n
        all_goals
          go_wp2
          go_ret
          exact ⟨ret_int HG.out.symm, q, rfl⟩
  · have HC := Lib.hid (chk_ranges hE)
    obtain ⟨E, hE2⟩ : ∃ E, rangesE a = E := ⟨_, rfl⟩
    rw [hE2] at HC hE
    have HR := Lib.hid hE2
    have hb : (E == 0) = false := by rw [beq_eq_false_iff_ne]; exact hE
    clear hE hE2
    go_enter Try.func7, Try.ntmps7
    go_wp2_with (go_at_call 24; refine (rightRanges_of a E HR.out _ _ _ _ X hnm ha).mono ?_; rintro e w' ⟨rfl, q0, rfl⟩)
    go_loopw [3, 4] (fun e i wr => ∃ q, e = .int .i64 E ∧ i = .int .i64 1 ∧ wr = w.drewN q) (fun _ i _ => 0)
    case atStart => exact ⟨q0, rfl, rfl, rfl⟩
    case round =>
      obtain ⟨q, rfl, rfl, rfl⟩ := hrel
      by_cases hlt : 1 < n
      all_goals
        go_wp2
        go_ret
        exact ⟨ret_int HC.out.symm, q, rfl⟩
theorem checkSet_of (a : List (Int × Int)) (e : Int) (he : chk a = e) (A : Option Addr) (n c : Nat) (w : World) (X : Nat) (hn : n ≤ maxLen) (ha : Rds w X 2 A n (rngs a)) :
    Calls Try.prog 7 #[.slice A n c] w fun e' w' => e' = .returned (.int .i64 e) ∧ ∃ q, w' = w.drewN q := by
  rw [← he]; exact checkSet_any a A n c w X hn ha
/-- what is wrong with two sets -/
def chk2 (a b : List (Int × Int)) : Int := if chk a = 0 then chk b else chk a
end Go.Proofs.Ytihodjfnhkihiaa
