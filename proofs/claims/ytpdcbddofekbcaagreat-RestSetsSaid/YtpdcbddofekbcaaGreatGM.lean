/-
  slices.BinarySearchFunc at ranges, RawHas, Has and Count of the program, walked. Has and Count of the program, walked.
-/
import Derived.Test.YtpdcbddofekbcaaGreatGC
import Derived.Test.YtpdcbddofekbcaaGreatSetF
import Derived.Test.YtpdcbddofekbcaaGreatGL
namespace Go.Proofs.YtpdcbddofekbcaaGreat
open Go.RowKit
set_option linter.unusedVariables false
def cmpR (x y p : Int) : Int := if y < p then -1 else if p < x then 1 else 0
set_option maxHeartbeats 1000000 in
theorem cmp123 (x y p : Int) (w : World) :
    Calls Tryz.prog 73 #[.agg #[.int .i64 x, .int .i64 y], .int .i64 p] w fun e w' => e = .returned (.int .i64 (cmpR x y p)) ∧ Below w.heap.size w w' := by
  unfold cmpR
  by_cases h1 : y < p
  · rw [if_pos h1]
    go_enter Tryz.func73, Tryz.ntmps73
    go_wp2
    go_ret
    exact ⟨rfl, (Below.refl _ _).alloc (Nat.le_refl _) _⟩
  · rw [if_neg h1]
    by_cases h2 : p < x
    · rw [if_pos h2]
      go_enter Tryz.func73, Tryz.ntmps73
      go_wp2
      go_ret
      exact ⟨rfl, (Below.refl _ _).alloc (Nat.le_refl _) _⟩
    · rw [if_neg h2]
      go_enter Tryz.func73, Tryz.ntmps73
      go_wp2
      go_ret
      exact ⟨rfl, (Below.refl _ _).alloc (Nat.le_refl _) _⟩
theorem bs_found {a : List (Int × Int)} (h : Can a) (p : Int) (i : Nat) (hi : i < a.length) (hlo : ∀ t (ht : t < a.length), t < i → (a[t]).2 < p) (hp : ¬ (a[i]).2 < p) : memB a p = decide ((a[i]).1 ≤ p) := by
  have hw := List.pairwise_iff_getElem.1 h.2
  rw [Bool.eq_iff_iff, memB_iff, decide_eq_true_eq]
  constructor
  · rintro ⟨r, hr, h1, h2⟩
    obtain ⟨t, ht, rfl⟩ := List.mem_iff_getElem.1 hr
    rcases Nat.lt_trichotomy t i with k | k | k
    · have := hlo t ht k; omega
    · subst k; exact h1
    · have := hw i t hi ht k; omega
  · intro h1
    exact ⟨a[i], List.getElem_mem hi, h1, by omega⟩
theorem bs_none {a : List (Int × Int)} (p : Int) (hlo : ∀ t (ht : t < a.length), (a[t]).2 < p) : memB a p = false := by
  rw [Bool.eq_false_iff]
  intro h
  obtain ⟨r, hr, h1, h2⟩ := (memB_iff a p).1 h
  obtain ⟨t, ht, rfl⟩ := List.mem_iff_getElem.1 hr
  have := hlo t ht
  omega
/-- how far the search is -/
def BsAt (a : List (Int × Int)) (p : Int) (i j : Nat) : Prop := (∀ t (ht : t < a.length), t < i → (a[t]).2 < p) ∧ (∀ t (ht : t < a.length), j ≤ t → ¬ (a[t]).2 < p)
theorem BsAt.up {a : List (Int × Int)} {p : Int} {i j h : Nat} (k : BsAt a p i j) (hc : Can a) (hh : h < a.length) (hp : (a[h]).2 < p) : BsAt a p (h + 1) j := by
  have hw := List.pairwise_iff_getElem.1 hc.2
  refine ⟨fun t ht hlt => ?_, k.2⟩
  rcases Nat.lt_or_ge t h with q | q
  · have := hw t h ht hh q
    have := (okR_iff _).1 (hc.1 a[h] (List.getElem_mem hh))
    omega
  · have : t = h := by omega
    subst this; exact hp
theorem BsAt.down {a : List (Int × Int)} {p : Int} {i j h : Nat} (k : BsAt a p i j) (hc : Can a) (hh : h < a.length) (hp : ¬ (a[h]).2 < p) : BsAt a p i h := by
  have hw := List.pairwise_iff_getElem.1 hc.2
  refine ⟨k.1, fun t ht hle => ?_⟩
  rcases Nat.lt_or_ge h t with q | q
  · have := hw h t hh ht q
    have := (okR_iff _).1 (hc.1 a[t] (List.getElem_mem ht))
    omega
  · have : t = h := by omega
    subst this; exact hp
set_option maxRecDepth 100000 in
set_option maxHeartbeats 1000000 in
theorem search122 (a : List (Int × Int)) (p : Int) (A : Option Addr) (n c : Nat) (w : World) (hn : n ≤ 1000000) (hc : Can a) (ha : Rds w w.heap.size 2 A n (rngs a)) :
    Calls Tryz.prog 72 #[.slice A n c, .int .i64 p, .func (.func 73) #[] #[]] w fun e w' => ∃ i : Int, e = .returned (.tuple #[.int .i64 i, .bool (memB a p)]) ∧ Below w.heap.size w w' := by
  have HA := Lib.hid ha.rngs_len
  have HC := Lib.hid hc
  clear hc
  go_enter Tryz.func72, Tryz.ntmps72
  go_wp2_with fail
  go_loopw [9, 10] (fun i j wr => ∃ x y : Nat, x ≤ y ∧ y ≤ n ∧ i = .int .i64 x ∧ j = .int .i64 y ∧ BsAt a p x y ∧ Below w.heap.size w wr) (fun i j _ => (intOf j).toNat - (intOf i).toNat)
  case atStart => exact ⟨0, n, Nat.zero_le _, Nat.le_refl _, rfl, rfl, ⟨fun t _ h => by omega, fun t ht h => by rw [HA.out] at ht; omega⟩, Below.refl _ _⟩
  case round =>
    obtain ⟨x, y, hxy, hyn, rfl, rfl, hat, hB⟩ := hrel
    have HAT := Lib.hid hat
    clear hat
    by_cases hlt : x < y
    · obtain ⟨h, hh⟩ : ∃ h : Nat, h = (x + y) / 2 := ⟨_, rfl⟩
      have hhi : ((x : Int) + (y : Int)) / 2 = (h : Int) := by omega
      have hxh : x ≤ h := by omega
      have hhy : h < y := by omega
      have hhn : h < n := by omega
      clear hh
      have HH := Lib.hid hhi
      clear hhi
      obtain ⟨b1, off1, hl1, hA, hb1, hc1, hd1⟩ := (ha.below hB (Nat.le_refl _)).rng_at hhn
      subst hA
      have HUP := Lib.hid (fun hp => HAT.out.up HC.out hl1 hp)
      have HDN := Lib.hid (fun hp => HAT.out.down HC.out hl1 hp)
      obtain ⟨r, hr⟩ : ∃ r, r = a[h] := ⟨_, rfl⟩
      rw [← hr] at hc1 hd1 HUP HDN
      clear hr
      obtain ⟨u, v⟩ := r
      simp only at hc1 hd1 HUP HDN
      have hsz := hB.size
      have i1 : (0 : Int) ≤ (h : Int) := by omega
      have i2 : (h : Int) < (n : Int) := by omega
      by_cases hp : v < p
      · have HP := Lib.hid hp
        have C := Lib.hid (fun w => (cmp123 u v p w))
        rw [show cmpR u v p = -1 from if_pos hp] at C
        clear hp
        go_upto_region 5 with (fail)
        rw [HH.out]
        go_wp2_with (go_at_call 73; refine (C.out _).mono ?_; rintro e w1 ⟨rfl, hb⟩)
        go_roundw
        case rel => exact ⟨h + 1, y, by omega, hyn, by go_num, rfl, HUP.out HP.out, hB.trans (hb.mono hsz)⟩
        case measure => simp [intOf]; omega
      · have HP := Lib.hid hp
        have C := Lib.hid (fun w => (cmp123 u v p w))
        obtain ⟨z, hz, hz0⟩ : ∃ z, cmpR u v p = z ∧ ¬ z < 0 := ⟨_, rfl, by unfold cmpR; rw [if_neg hp]; split <;> omega⟩
        rw [hz] at C
        clear hp hz
        go_upto_region 5 with (fail)
        rw [HH.out]
        go_wp2_with (go_at_call 73; refine (C.out _).mono ?_; rintro e w1 ⟨rfl, hb⟩)
        go_roundw
        case rel => exact ⟨x, h, hxh, by omega, rfl, rfl, HDN.out HP.out, hB.trans (hb.mono hsz)⟩
        case measure => simp [intOf]; omega
    · obtain rfl : x = y := by omega
      have hsz := hB.size
      by_cases hx : x < n
      · obtain ⟨b1, off1, hl1, hA, hb1, hc1, hd1⟩ := (ha.below hB (Nat.le_refl _)).rng_at hx
        subst hA
        have HF := Lib.hid (bs_found HC.out p x hl1 HAT.out.1 (HAT.out.2 x hl1 (Nat.le_refl _)))
        have HP := Lib.hid (HAT.out.2 x hl1 (Nat.le_refl _))
        obtain ⟨r, hr⟩ : ∃ r, r = a[x] := ⟨_, rfl⟩
        rw [← hr] at hc1 hd1 HF HP
        clear hr
        obtain ⟨u, v⟩ := r
        simp only at hc1 hd1 HF HP
        have i1 : (0 : Int) ≤ (x : Int) := by omega
        have i2 : (x : Int) < (n : Int) := by omega
        have C := Lib.hid (fun w => (cmp123 u v p w))
        by_cases hq : p < u
        · rw [show cmpR u v p = 1 by unfold cmpR; rw [if_neg HP.out, if_pos hq]] at C
          rw [show decide (u ≤ p) = false by rw [decide_eq_false_iff_not]; omega] at HF
          clear hq
          go_wp2_with (go_at_call 73; refine (C.out _).mono ?_; rintro e w1 ⟨rfl, hb⟩)
          go_ret2
          exact ⟨x, by rw [HF.out]; rfl, hB.trans (hb.mono hsz)⟩
        · rw [show cmpR u v p = 0 by unfold cmpR; rw [if_neg HP.out, if_neg hq]] at C
          rw [show decide (u ≤ p) = true by rw [decide_eq_true_eq]; omega] at HF
          clear hq
          go_wp2_with (go_at_call 73; refine (C.out _).mono ?_; rintro e w1 ⟨rfl, hb⟩)
          go_ret2
          exact ⟨x, by rw [HF.out]; rfl, hB.trans (hb.mono hsz)⟩
      · obtain rfl : x = n := by omega
        have HF := Lib.hid (bs_none (a := a) p fun t ht => HAT.out.1 t ht (by rw [HA.out] at ht; exact ht))
        go_wp2
        go_ret2
        exact ⟨x, by rw [HF.out]; rfl, hB⟩
set_option maxHeartbeats 1000000 in
theorem rawHas89 (a : List (Int × Int)) (p : Int) (A : Option Addr) (n c : Nat) (w : World) (hn : n ≤ 1000000) (hc : Can a) (ha : Rds w w.heap.size 2 A n (rngs a)) :
    Calls Tryz.prog 54 #[.slice A n c, .int .i64 p] w fun e w' => e = .returned (.bool (memB a p)) ∧ Below w.heap.size w w' := by
  have C := Lib.hid (search122 a p A n c w hn hc ha)
  clear ha hc
  go_enter Tryz.func54, Tryz.ntmps54
  go_wp2_with fail
  refine C.out.mono ?_
  rintro e w1 ⟨i, rfl, hb⟩
  go_wp2
  go_ret
  exact ⟨rfl, hb⟩
end Go.Proofs.YtpdcbddofekbcaaGreat
namespace Go.Proofs.YtpdcbddofekbcaaGreat
open Go.RowKit
set_option linter.unusedVariables false
/-- what is wrong with a set that is asked for a point -/
def hasE (a : List (Int × Int)) (p : Int) : Int := if chk a = 0 then (if (decide (0 ≤ p) && decide (p ≤ 1114111)) = true then 0 else 3) else chk a
def hasB (a : List (Int × Int)) (p : Int) : Bool := decide (hasE a p = 0) && memB a p
/-- how many points a set has, if it is one -/
def cntA (a : List (Int × Int)) : Int := if chk a = 0 then countL a else 0
end Go.Proofs.YtpdcbddofekbcaaGreat
