/-
  SameSet and RightRanges of the reference, walked.
-/
import Derived.Test.YtoilhjpbkbdifaaGreatSetB
import Derived.Laws.StructEq
namespace Go.Proofs.YtoilhjpbkbdifaaGreat
open Go.RowKit
set_option linter.unusedVariables false
def sameS (a b : List (Int × Int)) : Bool := decide (a = b)
theorem sameS_len {a b : List (Int × Int)} (h : a.length ≠ b.length) : sameS a b = false := by simp [sameS]; intro e; exact h (by rw [e])
theorem sameS_at {a b : List (Int × Int)} (k : Nat) (h1 : k < a.length) (h2 : k < b.length) (h : a[k] ≠ b[k]) : sameS a b = false := by
  simp [sameS]; intro e; subst e; exact h rfl
theorem sameS_all {a b : List (Int × Int)} (hl : a.length = b.length) (h : a.take a.length = b.take a.length) : sameS a b = true := by
  have : a = b := by
    rw [List.take_length, hl, List.take_length] at h; exact h
  simp [sameS, this]
set_option maxHeartbeats 1000000 in
theorem sameSet_any (a b : List (Int × Int)) (A B : Option Addr) (n m c d : Nat) (w : World) (X Y : Nat) (hn : n ≤ maxLen) (hm : m ≤ maxLen) (ha : Rds w X 2 A n (rngs a)) (hb : Rds w Y 2 B m (rngs b)) :
    Calls Tryz.prog 7 #[.slice A n c, .slice B m d] w fun e w' => e = .returned (.bool (sameS a b)) ∧ ∃ q, w' = w.drewN q := by
  have HA := Lib.hid ha.rngs_len
  have HB := Lib.hid hb.rngs_len
  unfold maxLen at hn hm
  by_cases h : n = m
  · subst h
    go_enter Tryz.func7, Tryz.ntmps7
    go_wp2_with fail
    go_loopw [5] (fun i wr => ∃ k : Nat, k ≤ n ∧ i = .int .i64 k ∧ a.take k = b.take k ∧ ∃ q, wr = w.drewN q) (fun i _ => n - (intOf i).toNat)
    case atStart => exact ⟨0, Nat.zero_le _, rfl, by simp, 0, rfl⟩
    case round =>
      obtain ⟨k, hk, rfl, hall, q, rfl⟩ := hrel
      have HALL := Lib.hid hall
      clear hall
      by_cases hlt : k < n
      · obtain ⟨b1, off1, hl1, hA, hb1, hc1, hd1⟩ := ha.rng_at hlt
        obtain ⟨b2, off2, hl2, hB, hb2, hc2, hd2⟩ := hb.rng_at hlt
        subst hA hB
        have HT1 := Lib.hid (take_snoc' a k hl1)
        have HT2 := Lib.hid (take_snoc' b k hl2)
        have HS := Lib.hid (sameS_at k hl1 hl2)
        obtain ⟨p, hp⟩ : ∃ p, p = a[k] := ⟨_, rfl⟩
        obtain ⟨q, hq⟩ : ∃ q, q = b[k] := ⟨_, rfl⟩
        rw [← hp] at hc1 hd1 HT1 HS
        rw [← hq] at hc2 hd2 HT2 HS
        clear hp hq
        have i1 : (0 : Int) ≤ (k : Int) := by omega
        have i2 : (k : Int) < (n : Int) := by omega
        obtain ⟨x1, y1⟩ := p
        obtain ⟨x2, y2⟩ := q
        simp only at hc1 hc2 hd1 hd2
        by_cases hpq : x1 = x2 ∧ y1 = y2
        · obtain ⟨rfl, rfl⟩ := hpq
          go_wp2_with fail
          go_quiet (fail)
          go_wp2
          go_roundw
          case rel => exact ⟨k + 1, by omega, by go_num, by rw [HT1.out, HT2.out, HALL.out], _, rfl⟩
          case measure => simp [intOf]; omega
        · have HPQ := Lib.hid (show ((x1, y1) : Int × Int) ≠ (x2, y2) from fun e => hpq (by injection e with e1 e2; exact ⟨e1, e2⟩))
          by_cases hx : x1 = x2
          · subst hx
            have hy : (y1 == y2) = false := by rw [beq_eq_false_iff_ne]; exact fun e => hpq ⟨rfl, e⟩
            clear hpq
            go_wp2_with fail
            go_quiet (fail)
            go_wp2
            go_ret
            exact ⟨ret_bool (HS.out HPQ.out).symm, _, World.drewN_drewN ..⟩
          · have hy : (x1 == x2) = false := by rw [beq_eq_false_iff_ne]; exact hx
            clear hpq hx
            go_wp2_with fail
            go_quiet (fail)
            go_wp2
            go_ret
            exact ⟨ret_bool (HS.out HPQ.out).symm, _, World.drewN_drewN ..⟩
      · obtain rfl : k = n := by omega
        go_wp2
        go_ret
        exact ⟨ret_bool (sameS_all (by rw [HA.out, HB.out]) (by rw [HA.out]; exact HALL.out)).symm, _, rfl⟩
  · have h' : ((n : Int) != (m : Int)) = true := by rw [bne_iff_ne]; omega
    have hs := Lib.hid (sameS_len (a := a) (b := b) (by rw [HA.out, HB.out]; exact h))
    clear h
    go_enter Tryz.func7, Tryz.ntmps7
    go_wp2
    go_ret
    exact ⟨ret_bool hs.out.symm, 0, rfl⟩

theorem okR_false {r : Int × Int} (h : okR r = false) : (decide (0 ≤ r.1) && decide (r.1 ≤ 1114111)) = false ∨ (decide (0 ≤ r.1) && decide (r.1 ≤ 1114111)) = true ∧ (decide (0 ≤ r.2) && decide (r.2 ≤ 1114111)) = false ∨ (decide (0 ≤ r.1) && decide (r.1 ≤ 1114111)) = true ∧ (decide (0 ≤ r.2) && decide (r.2 ≤ 1114111)) = true ∧ r.2 < r.1 := by
  unfold okR at h
  cases h1 : (decide (0 ≤ r.1) && decide (r.1 ≤ 1114111))
  · exact .inl rfl
  · cases h2 : (decide (0 ≤ r.2) && decide (r.2 ≤ 1114111))
    · exact .inr (.inl ⟨rfl, rfl⟩)
    · rw [h1, h2] at h; simp at h; exact .inr (.inr ⟨rfl, rfl, h⟩)
theorem okR_true {r : Int × Int} (h : okR r = true) : (decide (0 ≤ r.1) && decide (r.1 ≤ 1114111)) = true ∧ (decide (0 ≤ r.2) && decide (r.2 ≤ 1114111)) = true ∧ r.1 ≤ r.2 := by
  unfold okR at h; simp at h ⊢; omega
theorem rangesE_many {a : List (Int × Int)} (h : 400 < a.length) : rangesE a = 2 := by simp [rangesE, h]
theorem rangesE_bad {a : List (Int × Int)} (h : a.length ≤ 400) (k : Nat) (hk : k < a.length) (hr : okR a[k] = false) : rangesE a = 3 := by
  have : a.all okR = false := by rw [List.all_eq_false]; exact ⟨a[k], List.getElem_mem hk, by simp [hr]⟩
  simp [rangesE, this]; omega
theorem rangesE_fine {a : List (Int × Int)} (h : a.length ≤ 400) (hr : (a.take a.length).all okR = true) : rangesE a = 0 := by
  rw [List.take_length] at hr
  simp [rangesE, hr]; omega
theorem isPoint_of (p : Int) (b : Bool) (w : World) (h : (decide (0 ≤ p) && decide (p ≤ 1114111)) = b) : Calls Tryz.prog 23 #[.int .i64 p] w fun e w' => e = .returned (.bool b) ∧ w' = w := by
  rw [← h]; exact isPoint_any p w
end Go.Proofs.YtoilhjpbkbdifaaGreat
