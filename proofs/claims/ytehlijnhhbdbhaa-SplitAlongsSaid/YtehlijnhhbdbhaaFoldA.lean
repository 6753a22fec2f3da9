/- HasInt and SameInts of the reference, slices.Index and Contains at ints: walked. -/
import Derived.Test.YtehlijnhhbdbhaaSetOps
namespace Go.Proofs.Ytehlijnhhbdbhaa
open Go.RowKit
set_option linter.unusedVariables false
def hasI (l : List Int) (x : Int) : Bool := l.any fun y => y == x
theorem hasI_iff (l : List Int) (x : Int) : hasI l x = true ↔ x ∈ l := by simp [hasI]
theorem hasI_at {l : List Int} {x : Int} (k : Nat) (h : k < l.length) (hx : l[k] = x) : hasI l x = true := by
  rw [hasI_iff, ← hx]; exact List.getElem_mem h
theorem hasI_snoc (l : List Int) (y x : Int) : hasI (l ++ [y]) x = (hasI l x || y == x) := by simp [hasI]
theorem hasI_all {l : List Int} {x : Int} (h : hasI (l.take l.length) x = false) : hasI l x = false := by rwa [List.take_length] at h
set_option maxHeartbeats 1000000 in
theorem hasInt64 (l : List Int) (x : Int) (A : Option Addr) (n c : Nat) (w : World) (hn : n ≤ maxLen) (ha : Rds w w.heap.size 1 A n (ints l)) :
    Calls Try.prog 64 #[.slice A n c, .int .i64 x] w fun e w' => e = .returned (.bool (hasI l x)) ∧ w = w' := by
  have HL := Lib.hid ha.ints_len
  unfold maxLen at hn
  go_enter Try.func64, Try.ntmps64
  go_wp2_with fail
  go_loop [5] (fun i => ∃ k : Nat, k ≤ n ∧ i = .int .i64 k ∧ hasI (l.take k) x = false) (fun i => n - (intOf i).toNat)
  case atStart => exact ⟨0, Nat.zero_le _, rfl, rfl⟩
  case round =>
    obtain ⟨k, hk, rfl, hall⟩ := hrel
    have HALL := Lib.hid hall
    clear hall
    by_cases hlt : k < n
    · obtain ⟨b1, off1, hl1, hA, hb1, hc1⟩ := ha.int_at hlt
      subst hA
      have HT := Lib.hid (take_snoc' l k hl1)
      have HM := Lib.hid (hasI_at (x := x) k hl1)
      obtain ⟨y, hy⟩ : ∃ r, r = l[k] := ⟨_, rfl⟩
      rw [← hy] at hc1 HT HM
      clear hy
      by_cases hxy : y = x
      · subst hxy
        go_wp2
        go_ret
        exact ⟨ret_bool (HM.out (by trivial)).symm, rfl⟩
      · have hb : (y == x) = false := beq_eq_false_iff_ne.2 hxy
        have HB := Lib.hid hb
        clear hxy
        go_wp2
        go_round
        case rel => exact ⟨k + 1, by omega, by go_num, by rw [HT.out, hasI_snoc, HALL.out, HB.out]; rfl⟩
        case measure => simp [intOf]; omega
    · obtain rfl : k = n := by omega
      go_wp2
      go_ret
      exact ⟨ret_bool (hasI_all (by rw [HL.out]; exact HALL.out)).symm, rfl⟩
def sameI (a b : List Int) : Bool := decide (a = b)
theorem sameI_len {a b : List Int} (h : a.length ≠ b.length) : sameI a b = false := by simp [sameI]; intro e; exact h (by rw [e])
theorem sameI_at {a b : List Int} (k : Nat) (h1 : k < a.length) (h2 : k < b.length) (h : a[k] ≠ b[k]) : sameI a b = false := by
  simp [sameI]; intro e; subst e; exact h rfl
theorem sameI_all {a b : List Int} (hl : a.length = b.length) (h : a.take a.length = b.take a.length) : sameI a b = true := by
  have : a = b := by rw [List.take_length, hl, List.take_length] at h; exact h
  simp [sameI, this]
set_option maxHeartbeats 1000000 in
theorem sameInts63 (a b : List Int) (A B : Option Addr) (n m c d : Nat) (w : World) (hn : n ≤ maxLen) (hm : m ≤ maxLen) (ha : Rds w w.heap.size 1 A n (ints a)) (hb : Rds w w.heap.size 1 B m (ints b)) :
    Calls Try.prog 63 #[.slice A n c, .slice B m d] w fun e w' => e = .returned (.bool (sameI a b)) ∧ Below w.heap.size w w' := by
  have HA := Lib.hid ha.ints_len
  have HB := Lib.hid hb.ints_len
  unfold maxLen at hn hm
  by_cases h : n = m
  · subst h
    go_enter Try.func63, Try.ntmps63
    go_wp2_with fail
    go_loopw [5] (fun i wr => ∃ k : Nat, k ≤ n ∧ i = .int .i64 k ∧ a.take k = b.take k ∧ ∃ q, wr = w.drewN q) (fun i _ => n - (intOf i).toNat)
    case atStart => exact ⟨0, Nat.zero_le _, rfl, by simp, 0, rfl⟩
    case round =>
      obtain ⟨k, hk, rfl, hall, q, rfl⟩ := hrel
      have HALL := Lib.hid hall
      clear hall
      by_cases hlt : k < n
      · obtain ⟨b1, off1, hl1, hA, hb1, hc1⟩ := ha.int_at hlt
        obtain ⟨b2, off2, hl2, hB, hb2, hc2⟩ := hb.int_at hlt
        subst hA hB
        have HT1 := Lib.hid (take_snoc' a k hl1)
        have HT2 := Lib.hid (take_snoc' b k hl2)
        have HS := Lib.hid (sameI_at k hl1 hl2)
        obtain ⟨x, hx⟩ : ∃ p, p = a[k] := ⟨_, rfl⟩
        obtain ⟨y, hy⟩ : ∃ q, q = b[k] := ⟨_, rfl⟩
        rw [← hx] at hc1 HT1 HS
        rw [← hy] at hc2 HT2 HS
        clear hx hy
        have i1 : (0 : Int) ≤ (k : Int) := by omega
        have i2 : (k : Int) < (n : Int) := by omega
        by_cases hxy : x = y
        · subst hxy
          go_wp2_with fail
          go_quiet (fail)
          go_wp2
          go_roundw
          case rel => exact ⟨k + 1, by omega, by go_num, by rw [HT1.out, HT2.out, HALL.out], _, rfl⟩
          case measure => simp [intOf]; omega
        · have HXY := Lib.hid hxy
          have hxb : (x != y) = true := bne_iff_ne.2 hxy
          clear hxy
          go_wp2_with fail
          go_quiet (fail)
          go_wp2
          go_ret
          exact ⟨ret_bool (HS.out HXY.out).symm, below_drewN (below_q w q) _⟩
      · obtain rfl : k = n := by omega
        go_wp2
        go_ret
        exact ⟨ret_bool (sameI_all (by rw [HA.out, HB.out]) (by rw [HA.out]; exact HALL.out)).symm, below_q w q⟩
  · have h' : ((n : Int) != (m : Int)) = true := by rw [bne_iff_ne]; omega
    have hs := Lib.hid (sameI_len (a := a) (b := b) (by rw [HA.out, HB.out]; exact h))
    clear h
    go_enter Try.func63, Try.ntmps63
    go_wp2
    go_ret
    exact ⟨ret_bool hs.out.symm, Below.refl _ _⟩
set_option maxHeartbeats 1000000 in
theorem index158 (l : List Int) (x : Int) (A : Option Addr) (n c : Nat) (w : World) (hn : n ≤ maxLen) (ha : Rds w w.heap.size 1 A n (ints l)) :
    Calls Try.prog 158 #[.slice A n c, .int .i64 x] w fun e w' => (∃ i : Int, e = .returned (.int .i64 i) ∧ decide (0 ≤ i) = hasI l x) ∧ w = w' := by
  have HL := Lib.hid ha.ints_len
  unfold maxLen at hn
  go_enter Try.func158, Try.ntmps158
  go_wp2_with fail
  go_loop [8] (fun i => ∃ k : Nat, k ≤ n ∧ i = .int .i64 k ∧ hasI (l.take k) x = false) (fun i => n - (intOf i).toNat)
  case atStart => exact ⟨0, Nat.zero_le _, rfl, rfl⟩
  case round =>
    obtain ⟨k, hk, rfl, hall⟩ := hrel
    have HALL := Lib.hid hall
    clear hall
    by_cases hlt : k < n
    · obtain ⟨b1, off1, hl1, hA, hb1, hc1⟩ := ha.int_at hlt
      subst hA
      have HT := Lib.hid (take_snoc' l k hl1)
      have HM := Lib.hid (hasI_at (x := x) k hl1)
      obtain ⟨y, hy⟩ : ∃ r, r = l[k] := ⟨_, rfl⟩
      rw [← hy] at hc1 HT HM
      clear hy
      by_cases hxy : y = x
      · subst hxy
        go_wp2
        go_ret
        exact ⟨⟨k, rfl, by rw [HM.out (by trivial)]; simp⟩, rfl⟩
      · have hb : (x == y) = false := beq_eq_false_iff_ne.2 (fun e => hxy e.symm)
        have HB := Lib.hid (show (y == x) = false from beq_eq_false_iff_ne.2 hxy)
        clear hxy
        go_wp2
        go_round
        case rel => exact ⟨k + 1, by omega, by go_num, by rw [HT.out, hasI_snoc, HALL.out, HB.out]; rfl⟩
        case measure => simp [intOf]; omega
    · obtain rfl : k = n := by omega
      go_wp2
      go_ret
      refine ⟨⟨-1, rfl, ?_⟩, rfl⟩
      rw [hasI_all (by rw [HL.out]; exact HALL.out)]; rfl
set_option maxHeartbeats 1000000 in
theorem contains138 (l : List Int) (x : Int) (A : Option Addr) (n c : Nat) (w : World) (hn : n ≤ maxLen) (ha : Rds w w.heap.size 1 A n (ints l)) :
    Calls Try.prog 138 #[.slice A n c, .int .i64 x] w fun e w' => e = .returned (.bool (hasI l x)) ∧ w = w' := by
  go_enter Try.func138, Try.ntmps138
  go_wp2_with fail
  refine (index158 l x A n c w hn ha).mono ?_
  rintro e w' ⟨⟨i, rfl, hi⟩, rfl⟩
  have HI := Lib.hid hi
  clear hi
  go_wp2
  go_ret
  exact ⟨ret_bool HI.out, rfl⟩
set_option maxHeartbeats 400000 in
theorem isPoint107 (p : Int) (b : Bool) (w : World) (h : (decide (0 ≤ p) && decide (p ≤ 1114111)) = b) : Calls Try.prog 107 #[.int .i64 p] w fun e w' => e = .returned (.bool b) ∧ w = w' := by
  subst h
  go_enter Try.func107, Try.ntmps107
  go_wp2
  all_goals (go_ret; refine ⟨ret_bool ?_, rfl⟩; simp_all; try omega)
end Go.Proofs.Ytehlijnhhbdbhaa
