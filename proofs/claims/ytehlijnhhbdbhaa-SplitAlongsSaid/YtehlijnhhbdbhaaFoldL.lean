/- span and second of the program: walked. -/
import Derived.Test.YtehlijnhhbdbhaaFoldF
namespace Go.Proofs.Ytehlijnhhbdbhaa
open Go.RowKit
set_option linter.unusedVariables false
set_option maxRecDepth 100000 in
set_option maxHeartbeats 2000000 in
theorem span133 (rs : List (Int × Int)) (A : Option Addr) (n c : Nat) (w : World) (hn : n ≤ 1000) (ha : Rds w w.heap.size 1 A n (rngs rs)) :
    Calls Try.prog 133 #[.slice A n c] w (OwnRngs w rs) := by
  have HN := Lib.hid (show n = rs.length * 2 by have := ha.1; rw [rngs_length] at this; omega)
  go_enter Try.func133, Try.ntmps133
  go_wp2_with fail
  go_loopw [3, 4] (fun v i wr => ∃ k : Nat, k ≤ rs.length ∧ i = .int .i64 ((k * 2 : Nat) : Int) ∧ wr.ownsRow w.heap.size 44 2 v k (rngs (rs.take k)) ∧ Below w.heap.size w wr) (fun _ i _ => n - (intOf i).toNat)
  case atStart => exact ⟨0, Nat.zero_le _, rfl, World.ownsRow_nil _ _ _ _, Below.refl _ _⟩
  case round =>
    obtain ⟨k, hk, rfl, hown, hBl⟩ := hrel
    obtain ⟨Av, cv, rfl, hmc, hcv⟩ := own_slice hown
    unfold maxLen at hcv
    by_cases hlt : k < rs.length
    · obtain ⟨b1, off1, hA, hb1, hcells⟩ := (ha.below hBl (Nat.le_refl _)).2 (by rw [HN.out]; omega)
      subst hA
      obtain ⟨g1, g2⟩ := rngs_get rs k hlt
      have hc1 := hcells _ _ g1
      have hd1 := hcells _ _ g2
      have HT1 := Lib.hid (take_snoc' rs k hlt)
      have hkn : k * 2 + 1 < n := by rw [HN.out]; omega
      have hk1000 : k ≤ 1000 := by have := HN.out; omega
      clear hcells g1 g2
      obtain ⟨p, hp⟩ : ∃ p, p = rs[k] := ⟨_, rfl⟩
      rw [← hp] at hc1 hd1 HT1
      clear hp
      obtain ⟨x, y⟩ := p
      simp only at hc1 hd1
      obtain ⟨m, hm⟩ : ∃ m, m = k * 2 := ⟨_, rfl⟩
      have HM := Lib.hid hm
      rw [← hm] at hc1 hd1 hkn ⊢
      clear hm
      have i1 : (0 : Int) ≤ (m : Int) := by omega
      have i2 : (m : Int) + 1 < (n : Int) := by omega
      have i3 : (m : Int) < (n : Int) := by omega
      have i4 : (0 : Int) ≤ (m : Int) + 1 := by omega
      have hsz := hBl.size
      have W1 := Lib.hid (show IntKind.i64.wrap ((m : Int) + 1) = (m : Int) + 1 from IntWalk.i64_in _ (by omega))
      have W2 := Lib.hid (show ((m : Int) + 1).toNat = m + 1 by omega)
      have R := Lib.hid (Rds.new wr 2 1 #[.int .i64 x, .int .i64 y] 44 (rngs [(x, y)]) rfl rfl)
      have hne : (some b1 : Option Nat) ≠ (Value.slice Av k cv).ownBlock := fun e => by have := hown.lt b1 e.symm; omega
      have HNE := Lib.hid hne
      have hn1 := World.new_ne wr
      clear hne
      go_wp2_with fail
      have w1 := W1.out
      have w2 := W2.out
      go_region_held3 (fun w' => w'.cell? ⟨b1, off1 + m, none⟩ = some (.int .i64 x) ∧ w'.cell? ⟨b1, off1 + (m + 1), none⟩ = some (.int .i64 y))
        (first
          | (exact ⟨by simpa using hc1, by simpa using hd1⟩)
          | (go_split_ands; exact keep2 hg3 (by assumption) (by assumption) HNE.out)
          | go_keep
          | (go_split_ands; trace_state; fail))
        (first
          | (refine step_app_rngs (.tmp 11) (.tmp 22) (hown.alloc _) R.out (by omega) (by simp; omega) rfl rfl rfl rfl ?_; intro v3 w3 hown3 hg3 hat3))
      clear w1 w2
      go_wp2
      go_roundw
      case rel => exact ⟨k + 1, by omega, by rw [HM.out]; go_num, by rw [HT1.out]; exact hown3, by first | exact grown_own (hBl.alloc hsz _) (hown.alloc _) hg3 (Nat.le_refl _) (by simp; omega) | exact grown_own (hBl.alloc hsz _).drew (hown.alloc _) hg3 (Nat.le_refl _) (by simp; omega)⟩
      case measure => simp [intOf]; omega
    · obtain rfl : k = rs.length := by omega
      have HT := Lib.hid (show rs.take rs.length = rs from List.take_of_length_le (Nat.le_refl _))
      have hge : (n : Int) ≤ ((rs.length * 2 : Nat) : Int) := by rw [HN.out]; exact Int.le_refl _
      rw [HT.out] at hown
      obtain ⟨m, hm⟩ : ∃ m : Nat, m = rs.length * 2 := ⟨_, rfl⟩
      rw [← hm] at hge ⊢
      clear hm
      go_wp2
      go_ret
      exact ownRngs_of rfl hown hBl
def evens (a : Int) : Nat → List (Int × Int)
  | 0 => []
  | k + 1 => evens a k ++ [(a + 2 * k, a + 2 * k)]
theorem evens_len (a : Int) (k : Nat) : (evens a k).length = k := by
  induction k with
  | zero => rfl
  | succ k ih => simp [evens, ih]
set_option maxRecDepth 100000 in
set_option maxHeartbeats 2000000 in
theorem second135 (a : Int) (k : Nat) (w : World) (ha : 0 ≤ a) (ha1 : a ≤ 1000) (hk : k ≤ 100) :
    Calls Try.prog 135 #[.int .i64 a, .int .i64 (a + 2 * k)] w (OwnRngs w (evens a (k + 1))) := by
  obtain ⟨b, hb⟩ : ∃ b, b = a + 2 * k := ⟨_, rfl⟩
  rw [← hb]
  have HB := Lib.hid hb
  have b1 : a ≤ b := by omega
  have b2 : b ≤ 2000 := by omega
  clear hb
  go_enter Try.func135, Try.ntmps135
  go_wp2_with fail
  go_loopw [5, 6] (fun v i wr => ∃ j : Nat, j ≤ k + 1 ∧ i = .int .i64 (a + 2 * j) ∧ wr.ownsRow w.heap.size 44 2 v j (rngs (evens a j)) ∧ Below w.heap.size w wr) (fun _ i _ => (b + 2 - intOf i).toNat)
  case atStart => exact ⟨0, by omega, by simp, World.ownsRow_nil _ _ _ _, Below.refl _ _⟩
  case round =>
    obtain ⟨j, hj, rfl, hown, hBl⟩ := hrel
    obtain ⟨Av, cv, rfl, hmc, hcv⟩ := own_slice hown
    unfold maxLen at hcv
    have HE := Lib.hid (show evens a (j + 1) = evens a j ++ [(a + 2 * j, a + 2 * j)] from rfl)
    obtain ⟨x, hx⟩ : ∃ x, x = a + 2 * (j : Int) := ⟨_, rfl⟩
    have hx0 : 0 ≤ x := by omega
    have hx2 : x ≤ b + 2 := by have := HB.out; omega
    rw [← hx] at HE ⊢
    have HX := Lib.hid hx
    clear hx
    have hsz := hBl.size
    have R := Lib.hid (Rds.new wr 2 1 #[.int .i64 x, .int .i64 x] 44 (rngs [(x, x)]) rfl rfl)
    by_cases hlt : x ≤ b
    · have hjk : j ≤ k := by have := HB.out; have := HX.out; omega
      go_wp2_with (at_builtin; refine app_rngs (.tmp 13) (.tmp 17) (base := w.heap.size) (hown.alloc _) R.out (by omega) (by simp; omega) rfl rfl rfl rfl ?_; intro v3 w3 hown3 hg3 hat3)
      go_roundw
      case rel => exact ⟨j + 1, by omega, congrArg (Value.int .i64) (by have := HX.out; omega), by rw [HE.out]; exact hown3, grown_own (hBl.alloc hsz _) (hown.alloc _) hg3 (Nat.le_refl _) (by simp; omega)⟩
      case measure => simp [intOf]; omega
    · have hjk : j = k + 1 := by have := HB.out; have := HX.out; omega
      subst hjk
      go_wp2
      go_ret
      exact ownRngs_of rfl hown hBl
end Go.Proofs.Ytehlijnhhbdbhaa
