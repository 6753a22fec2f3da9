/- Has and Count of the program, walked. -/
import Derived.Test.YtihodjfnhkihiaaSetS
import Derived.Test.YtihodjfnhkihiaaSpR
namespace Go.Proofs.Ytihodjfnhkihiaa
open Go.RowKit
set_option linter.unusedVariables false
theorem countL_bound {a : List (Int × Int)} (h : ∀ r ∈ a, okR r = true) : 0 ≤ countL a ∧ countL a ≤ a.length * 1114112 := by
  induction a with
  | nil => simp [countL]
  | cons r a ih =>
    have h1 := (okR_iff r).1 (h r (.head _))
    have h2 := ih fun s hs => h s (.tail _ hs)
    simp only [countL, List.length_cons]
    have : ((a.length + 1 : Nat) : Int) * 1114112 = a.length * 1114112 + 1114112 := by omega
    omega
/-- what is wrong with a set that is asked for a point -/
def hasE (a : List (Int × Int)) (p : Int) : Int := if chk a = 0 then (if (decide (0 ≤ p) && decide (p ≤ 1114111)) = true then 0 else 3) else chk a
def hasB (a : List (Int × Int)) (p : Int) : Bool := decide (hasE a p = 0) && memB a p
/-- how many points a set has, if it is one -/
def cntA (a : List (Int × Int)) : Int := if chk a = 0 then countL a else 0
set_option maxRecDepth 100000 in
set_option maxHeartbeats 2000000 in
theorem count43 (a : List (Int × Int)) (A : Option Addr) (n c : Nat) (w : World) (hnc : n ≤ c) (hc : c ≤ maxLen) (ha : Rds w w.heap.size 2 A n (rngs a)) :
    Calls Try.prog 17 #[.slice A n c] w fun e w' => e = .returned (.tuple #[.int .i64 (cntA a), .int .i64 (chk a)]) ∧ Below w.heap.size w w' := by
  have HA := Lib.hid ha.rngs_len
  have hb0 : Below w.heap.size w (w.alloc (.cells #[.slice A n c] 22)) := by go_grown
  have C := Lib.hid (check80 [a] [.slice A n c] _ 1 1 _ (by decide) ((Rds.new w 1 1 #[.slice A n c] 22 [.slice A n c] rfl rfl).more (by simp)) ((sls_one hnc hc ha).below hb0 (Nat.le_refl _) |>.more (by simp)))
  rw [chkL_one] at C
  by_cases h0 : chk a = 0
  · obtain ⟨hk, hcan⟩ := (chk_ok a).1 h0
    have HOK := Lib.hid hcan.1
    rw [HA.out] at hk
    have HC := Lib.hid (show cntA a = countL a by unfold cntA; rw [if_pos h0])
    rw [HC.out, h0]
    rw [h0] at C
    clear h0 hcan
    go_enter Try.func17, Try.ntmps17
    go_wp2_with fail
    refine C.out.mono ?_
    rintro e w1 ⟨rfl, hb⟩
    have hsz := hb.size
    have R := ((ha.below hb0 (Nat.le_refl _)).below hb (by simp))
    have B1 := hb0.trans (hb.mono (by simp))
    have hz := B1.size
    go_wp2_with fail
    go_loopw [5, 16] (fun t i wr => ∃ k : Nat, k ≤ n ∧ i = .int .i64 k ∧ t = .int .i64 (countL (a.take k)) ∧ Below w.heap.size w wr) (fun _ i _ => n - (intOf i).toNat)
    case atStart => exact ⟨0, Nat.zero_le _, rfl, rfl, B1⟩
    case round =>
      clear R B1 hz hb hsz
      obtain ⟨k, hk2, rfl, rfl, hB⟩ := hrel
      have hb' := countL_bound (a := a.take k) fun r hr => HOK.out r (List.mem_of_mem_take hr)
      have hb2 : ((a.take k).length : Int) * 1114112 ≤ 111411200000 := by
        have : (a.take k).length ≤ 100000 := by rw [List.length_take]; omega
        omega
      have b1 := hb'.1
      have b2 : countL (a.take k) ≤ 111411200000 := by omega
      clear hb' hb2
      by_cases hlt : k < n
      · obtain ⟨b1', off1, hl1, hA, hb1, hc1, hd1⟩ := (ha.below hB (Nat.le_refl _)).rng_at hlt
        subst hA
        have HT1 := Lib.hid (take_snoc' a k hl1)
        have HCC := Lib.hid (countL_snoc (a.take k) a[k])
        have bx := (okR_iff _).1 (HOK.out a[k] (List.getElem_mem hl1))
        obtain ⟨p, hp⟩ : ∃ p, p = a[k] := ⟨_, rfl⟩
        rw [← hp] at hc1 hd1 HT1 HCC bx
        clear hp
        obtain ⟨x, y⟩ := p
        simp only at hc1 hd1 bx
        have i1 : (0 : Int) ≤ (k : Int) := by omega
        have i2 : (k : Int) < (n : Int) := by omega
        obtain ⟨t, ht⟩ : ∃ t, t = countL (a.take k) := ⟨_, rfl⟩
        rw [← ht] at b1 b2 HCC ⊢
        clear ht
        have hsz := hB.size
        have W1 := Lib.hid (show IntKind.i64.wrap (y - x) = y - x from IntWalk.i64_in _ (by omega))
        have W2 := Lib.hid (show IntKind.i64.wrap (y - x + 1) = y - x + 1 from IntWalk.i64_in _ (by omega))
        have W3 := Lib.hid (show IntKind.i64.wrap (t + (y - x + 1)) = t + (y - x + 1) from IntWalk.i64_in _ (by omega))
        have w1 := W1.out
        have w2 := W2.out
        have w3 := W3.out
        go_wp2
        clear w1 w2 w3
        go_roundw
        case rel => exact ⟨k + 1, by omega, by go_num, by rw [HT1.out, HCC.out]; exact congrArg (Value.int .i64) (by simp only; omega), hB.alloc hsz _⟩
        case measure => simp [intOf]; omega
      · obtain rfl : k = n := by omega
        have HT := Lib.hid (show a.take k = a from List.take_of_length_le (by rw [HA.out]; exact Nat.le_refl _))
        rw [HT.out]
        go_wp2
        go_ret2
        exact ⟨rfl, hB⟩
  · have HC := Lib.hid (show cntA a = 0 by unfold cntA; rw [if_neg h0])
    rw [HC.out]
    obtain ⟨E, hE⟩ : ∃ E, E = chk a := ⟨_, rfl⟩
    rw [← hE] at C h0 ⊢
    have hb : (E != 0) = true := by rw [bne_iff_ne]; exact h0
    clear hE h0
    go_enter Try.func17, Try.ntmps17
    go_wp2_with fail
    refine C.out.mono ?_
    rintro e w1 ⟨rfl, hb⟩
    go_wp2
    go_ret2
    exact ⟨rfl, hb0.trans (hb.mono (by simp))⟩
end Go.Proofs.Ytihodjfnhkihiaa
