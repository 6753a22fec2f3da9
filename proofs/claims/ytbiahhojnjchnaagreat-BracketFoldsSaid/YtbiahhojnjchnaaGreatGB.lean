/-
  CountOf and EndsOf of the reference, walked. How many points a set has: plain.
-/
import Derived.Test.YtbiahhojnjchnaaGreatGA
set_option linter.unusedVariables false
set_option linter.unusedSimpArgs false
namespace Go.Proofs.YtbiahhojnjchnaaGreat
open Go.RowKit
def countL : List (Int × Int) → Int
  | [] => 0
  | r :: l => (r.2 + 1 - r.1) + countL l
theorem countL_append (a b : List (Int × Int)) : countL (a ++ b) = countL a + countL b := by
  induction a with
  | nil => simp [countL]
  | cons r a ih => simp [countL, ih]; omega
theorem countL_snoc (a : List (Int × Int)) (r : Int × Int) : countL (a ++ [r]) = countL a + (r.2 + 1 - r.1) := by rw [countL_append]; simp [countL]
theorem countL_bound {a : List (Int × Int)} (h : ∀ r ∈ a, okR r = true) : 0 ≤ countL a ∧ countL a ≤ a.length * 1114112 := by
  induction a with
  | nil => simp [countL]
  | cons r a ih =>
    have h1 := (okR_iff r).1 (h r (.head _))
    have h2 := ih fun s hs => h s (.tail _ hs)
    simp only [countL, List.length_cons]
    have : ((a.length + 1 : Nat) : Int) * 1114112 = a.length * 1114112 + 1114112 := by omega
    omega
def endsL : List (Int × Int) → List Int
  | [] => []
  | r :: l => r.1 :: (r.2 + 1) :: endsL l
theorem endsL_append (a b : List (Int × Int)) : endsL (a ++ b) = endsL a ++ endsL b := by
  induction a with
  | nil => rfl
  | cons r a ih => simp [endsL, ih]
theorem endsL_len (a : List (Int × Int)) : (endsL a).length = a.length * 2 := by
  induction a with
  | nil => rfl
  | cons r a ih => simp [endsL, ih]; omega
theorem keep2 {wa w3 : World} {row : Option Nat} {b o1 o2 : Nat} {v1 v2 : Value} (hg : wa.grownBy w3 row) (h1 : wa.cell? ⟨b, o1, none⟩ = some v1) (h2 : wa.cell? ⟨b, o2, none⟩ = some v2) (hne : some b ≠ row) :
    w3.cell? ⟨b, o1, none⟩ = some v1 ∧ w3.cell? ⟨b, o2, none⟩ = some v2 := ⟨hg.cell h1 hne, hg.cell h2 hne⟩
set_option maxHeartbeats 2000000 in
theorem endsOf_any (a b : List (Int × Int)) (A B : Option Addr) (n m c d : Nat) (w : World) (hn : n + m ≤ 100000) (hok : ∀ r ∈ a, okR r = true) (hok2 : ∀ r ∈ b, okR r = true) (ha : Rds w w.heap.size 2 A n (rngs a)) (hb : Rds w w.heap.size 2 B m (rngs b)) :
    Calls Tryz.prog 99 #[.slice A n c, .slice B m d] w (OwnInts w (endsL a ++ endsL b)) := by
  have HA := Lib.hid ha.rngs_len
  have HB := Lib.hid hb.rngs_len
  have HOK := Lib.hid hok
  have HOK2 := Lib.hid hok2
  clear hok hok2
  go_enter Tryz.func99, Tryz.ntmps99
  go_wp2_with fail
  go_loopw [5, 6] (fun v i wr => ∃ k t : Nat, k ≤ n ∧ i = .int .i64 k ∧ t ≤ k * 2 ∧ wr.ownsRow w.heap.size 3 1 v t (ints (endsL (a.take k))) ∧ Below w.heap.size w wr) (fun _ i _ => n - (intOf i).toNat)
  case atStart => exact ⟨0, 0, Nat.zero_le _, rfl, by omega, World.ownsRow_nil _ _ _ _, Below.refl _ _⟩
  case round =>
    obtain ⟨k, t, hk, rfl, ht, hown, hBl⟩ := hrel
    obtain ⟨Av, cv, rfl, hmc, hcv⟩ := own_slice hown
    unfold maxLen at hcv
    by_cases hlt : k < n
    · obtain ⟨b1, off1, hl1, hA, hb1, hc1, hd1⟩ := (ha.below hBl (Nat.le_refl _)).rng_at hlt
      subst hA
      have HT1 := Lib.hid (take_snoc' a k hl1)
      have HC := Lib.hid (endsL_append (a.take k) [a[k]])
      have bx := (okR_iff _).1 (HOK.out a[k] (List.getElem_mem hl1))
      obtain ⟨p, hp⟩ : ∃ p, p = a[k] := ⟨_, rfl⟩
      rw [← hp] at hc1 hd1 HT1 HC bx
      clear hp
      obtain ⟨x, y⟩ := p
      simp only at hc1 hd1 bx
      have i1 : (0 : Int) ≤ (k : Int) := by omega
      have i2 : (k : Int) < (n : Int) := by omega
      have hsz := hBl.size
      have W1 := Lib.hid (show IntKind.i64.wrap (y + 1) = y + 1 from IntWalk.i64_in _ (by omega))
      have R := Lib.hid (Rds.new wr 1 2 #[.int .i64 x, .int .i64 (y + 1)] 3 (ints [x, y + 1]) rfl rfl)
      have hne : (some b1 : Option Nat) ≠ (Value.slice Av t cv).ownBlock := fun e => by have := hown.lt b1 e.symm; omega
      have HNE := Lib.hid hne
      have hn1 := World.new_ne wr
      clear hne
      go_wp2_with fail
      have w1 := W1.out
      go_region_held3 (fun w' => w'.cell? ⟨b1, off1 + k * 2, none⟩ = some (.int .i64 x) ∧ w'.cell? ⟨b1, off1 + k * 2 + 1, none⟩ = some (.int .i64 y))
        (first
          | (exact ⟨by simpa using hc1, by simpa using hd1⟩)
          | (go_split_ands; exact keep2 hg3 (by assumption) (by assumption) HNE.out)
          | go_keep
          | (go_split_ands; trace_state; fail))
        (first
          | (refine step_app_ints (.tmp 14) (.tmp 26) (hown.alloc _) R.out (by omega) (by simp; omega) rfl rfl rfl rfl ?_; intro v3 w3 hown3 hg3 hat3))
      clear w1
      go_wp2
      go_roundw
      case rel => exact ⟨k + 1, t + 2, by omega, by go_num, by omega, by rw [HT1.out, HC.out]; exact hown3, by first | exact grown_own (hBl.alloc hsz _) (hown.alloc _) hg3 (Nat.le_refl _) (by simp; omega) | exact grown_own (hBl.alloc hsz _).drew (hown.alloc _) hg3 (Nat.le_refl _) (by simp; omega)⟩
      case measure => simp [intOf]; omega
    · obtain rfl : k = n := by omega
      have HT := Lib.hid (show a.take k = a from List.take_of_length_le (by rw [HA.out]; exact Nat.le_refl _))
      rw [HT.out] at hown
      clear HT
      go_wp2_with fail
      go_loopw [5, 7] (fun v i wr => ∃ j t : Nat, j ≤ m ∧ i = .int .i64 j ∧ t ≤ (k + j) * 2 ∧ wr.ownsRow w.heap.size 3 1 v t (ints (endsL a ++ endsL (b.take j))) ∧ Below w.heap.size w wr) (fun _ i _ => m - (intOf i).toNat)
      case atStart => exact ⟨0, t, Nat.zero_le _, rfl, by omega, by simpa [endsL] using hown, hBl⟩
      case round =>
        clear hown hBl hmc hcv
        obtain ⟨j, t, hk, rfl, ht, hown, hBl⟩ := hrel
        obtain ⟨Av, cv, rfl, hmc, hcv⟩ := own_slice hown
        unfold maxLen at hcv
        by_cases hlt : j < m
        · obtain ⟨b1, off1, hl1, hA, hb1, hc1, hd1⟩ := (hb.below hBl (Nat.le_refl _)).rng_at hlt
          subst hA
          have HT1 := Lib.hid (take_snoc' b j hl1)
          have HC := Lib.hid (endsL_append (b.take j) [b[j]])
          have bx := (okR_iff _).1 (HOK2.out b[j] (List.getElem_mem hl1))
          obtain ⟨p, hp⟩ : ∃ p, p = b[j] := ⟨_, rfl⟩
          rw [← hp] at hc1 hd1 HT1 HC bx
          clear hp
          obtain ⟨x, y⟩ := p
          simp only at hc1 hd1 bx
          have i1 : (0 : Int) ≤ (j : Int) := by omega
          have i2 : (j : Int) < (m : Int) := by omega
          have hsz := hBl.size
          have W1 := Lib.hid (show IntKind.i64.wrap (y + 1) = y + 1 from IntWalk.i64_in _ (by omega))
          have R := Lib.hid (Rds.new wr 1 2 #[.int .i64 x, .int .i64 (y + 1)] 3 (ints [x, y + 1]) rfl rfl)
          have hne : (some b1 : Option Nat) ≠ (Value.slice Av t cv).ownBlock := fun e => by have := hown.lt b1 e.symm; omega
          have HNE := Lib.hid hne
          have hn1 := World.new_ne wr
          clear hne
          go_wp2_with fail
          have w1 := W1.out
          go_region_held3 (fun w' => w'.cell? ⟨b1, off1 + j * 2, none⟩ = some (.int .i64 x) ∧ w'.cell? ⟨b1, off1 + j * 2 + 1, none⟩ = some (.int .i64 y))
            (first
              | (exact ⟨by simpa using hc1, by simpa using hd1⟩)
              | (go_split_ands; exact keep2 hg3 (by assumption) (by assumption) HNE.out)
              | go_keep
              | (go_split_ands; trace_state; fail))
            (first
              | (refine step_app_ints (.tmp 34) (.tmp 46) (hown.alloc _) R.out (by omega) (by simp; omega) rfl rfl rfl rfl ?_; intro v3 w3 hown3 hg3 hat3))
          clear w1
          go_wp2
          go_roundw
          case rel => exact ⟨j + 1, t + 2, by omega, by go_num, by omega, by rw [HT1.out, HC.out, ← List.append_assoc]; exact hown3, by first | exact grown_own (hBl.alloc hsz _) (hown.alloc _) hg3 (Nat.le_refl _) (by simp; omega) | exact grown_own (hBl.alloc hsz _).drew (hown.alloc _) hg3 (Nat.le_refl _) (by simp; omega)⟩
          case measure => simp [intOf]; omega
        · obtain rfl : j = m := by omega
          have HT := Lib.hid (show b.take j = b from List.take_of_length_le (by rw [HB.out]; exact Nat.le_refl _))
          rw [HT.out] at hown
          go_wp2
          go_ret
          exact ownInts_of rfl hown hBl
end Go.Proofs.YtbiahhojnjchnaaGreat
namespace Go.Proofs.YtbiahhojnjchnaaGreat
/-- how many of the points below k are so -/
def cntB (f : Int → Bool) : Nat → Nat
  | 0 => 0
  | k + 1 => cntB f k + (f k).toNat
theorem cntB_congr {f g : Int → Bool} (k : Nat) (h : ∀ p : Int, 0 ≤ p → p < k → f p = g p) : cntB f k = cntB g k := by
  induction k with
  | zero => rfl
  | succ k ih =>
    simp only [cntB]
    rw [ih fun p h0 h1 => h p h0 (by omega), h k (by omega) (by omega)]
theorem cntB_or {f g : Int → Bool} (k : Nat) : cntB (fun p => f p || g p) k + cntB (fun p => f p && g p) k = cntB f k + cntB g k := by
  induction k with
  | zero => rfl
  | succ k ih =>
    have e : ∀ a b : Bool, (a || b).toNat + (a && b).toNat = a.toNat + b.toNat := by decide
    have := e (f k) (g k)
    simp only [cntB]
    omega
theorem cntB_false (k : Nat) : cntB (fun _ => false) k = 0 := by
  induction k with
  | zero => rfl
  | succ k ih => simp [cntB, ih]
theorem cntB_range (x y : Int) (hx : 0 ≤ x) (hxy : x ≤ y) (k : Nat) : (cntB (fun p => decide (x ≤ p) && decide (p ≤ y)) k : Int) = if (k : Int) ≤ x then 0 else if (k : Int) ≤ y + 1 then (k : Int) - x else y + 1 - x := by
  induction k with
  | zero => simp [cntB, hx]
  | succ k ih =>
    simp only [cntB, Int.natCast_add]
    rw [ih]
    have hb : ((decide (x ≤ (k : Int)) && decide ((k : Int) ≤ y)).toNat : Int) = if x ≤ (k : Int) ∧ (k : Int) ≤ y then 1 else 0 := by
      by_cases h1 : x ≤ (k : Int) <;> by_cases h2 : (k : Int) ≤ y <;> simp [h1, h2]
    rw [hb]
    split <;> split <;> (try split) <;> (try split) <;> (try split) <;> omega
theorem memB_cons (r : Int × Int) (a : List (Int × Int)) (p : Int) : memB (r :: a) p = ((decide (r.1 ≤ p) && decide (p ≤ r.2)) || memB a p) := by simp [memB]
theorem countL_cnt {a : List (Int × Int)} (h : Can a) : countL a = cntB (memB a) 1114112 := by
  induction a with
  | nil => simp only [countL]; rw [show memB [] = fun _ => false from rfl, cntB_false]; rfl
  | cons r a ih =>
    have hr := (okR_iff r).1 h.head.1
    have ih := ih h.tail
    have e1 := cntB_or (f := fun p => decide (r.1 ≤ p) && decide (p ≤ r.2)) (g := memB a) 1114112
    have e2 : cntB (fun p => (decide (r.1 ≤ p) && decide (p ≤ r.2)) && memB a p) 1114112 = 0 := by
      rw [cntB_congr (g := fun _ => false), cntB_false]
      intro p h0 h1
      cases hm : memB a p
      · simp
      · have := h.le_head ((memB_iff a p).1 hm)
        rw [decide_eq_false (show ¬ p ≤ r.2 by omega)]; simp
    have e3 := cntB_range r.1 r.2 hr.1 hr.2.1 1114112
    rw [if_neg (by omega)] at e3
    have e3' : (cntB (fun p => decide (r.1 ≤ p) && decide (p ≤ r.2)) 1114112 : Int) = r.2 + 1 - r.1 := by
      rw [e3]; split <;> omega
    clear e3
    have e4 : cntB (memB (r :: a)) 1114112 = cntB (fun p => (decide (r.1 ≤ p) && decide (p ≤ r.2)) || memB a p) 1114112 := cntB_congr _ fun p _ _ => memB_cons r a p
    simp only [countL]
    rw [e4]
    omega
end Go.Proofs.YtbiahhojnjchnaaGreat
