/- How many points a set has: plain. -/
import Derived.Test.YtehlijnhhbdbhaaSetE
namespace Go.Proofs.Ytehlijnhhbdbhaa
set_option linter.unusedVariables false
/-- how many of the points below k are so -/
def cntB (f : Int → Bool) : Nat → Nat
  | 0 => 0
  | k + 1 => cntB f k + (f k).toNat
theorem cntB_congr {f g : Int → Bool} (k : Nat) (h : ∀ p : Int, 0 ≤ p → p < k → f p = g p) : cntB f k = cntB g k := by
  induction k with
  | zero => rfl
  | succ k ih =>
    simp only [cntB]
    rw [ih fun p h0 h1 => h p h0 (by omega), h k (by omega) (by omega)]
theorem cntB_or {f g : Int → Bool} (k : Nat) : cntB (fun p => f p || g p) k + cntB (fun p => f p && g p) k = cntB f k + cntB g k := by
  induction k with
  | zero => rfl
  | succ k ih =>
    have e : ∀ a b : Bool, (a || b).toNat + (a && b).toNat = a.toNat + b.toNat := by decide
    have := e (f k) (g k)
    simp only [cntB]
    omega
theorem cntB_false (k : Nat) : cntB (fun _ => false) k = 0 := by
  induction k with
  | zero => rfl
  | succ k ih => simp [cntB, ih]
theorem cntB_range (x y : Int) (hx : 0 ≤ x) (hxy : x ≤ y) (k : Nat) : (cntB (fun p => decide (x ≤ p) && decide (p ≤ y)) k : Int) = if (k : Int) ≤ x then 0 else if (k : Int) ≤ y + 1 then (k : Int) - x else y + 1 - x := by
  induction k with
  | zero => simp [cntB, hx]
  | succ k ih =>
    simp only [cntB, Int.natCast_add]
    rw [ih]
    have hb : ((decide (x ≤ (k : Int)) && decide ((k : Int) ≤ y)).toNat : Int) = if x ≤ (k : Int) ∧ (k : Int) ≤ y then 1 else 0 := by
      by_cases h1 : x ≤ (k : Int) <;> by_cases h2 : (k : Int) ≤ y <;> simp [h1, h2]
    rw [hb]
    split <;> split <;> (try split) <;> (try split) <;> (try split) <;> omega
theorem memB_cons (r : Int × Int) (a : List (Int × Int)) (p : Int) : memB (r :: a) p = ((decide (r.1 ≤ p) && decide (p ≤ r.2)) || memB a p) := by simp [memB]
theorem countL_cnt {a : List (Int × Int)} (h : Can a) : countL a = cntB (memB a) 1114112 := by
  induction a with
  | nil => simp only [countL]; rw [show memB [] = fun _ => false from rfl, cntB_false]; rfl
  | cons r a ih =>
    have hr := (okR_iff r).1 h.head.1
    have ih := ih h.tail
    have e1 := cntB_or (f := fun p => decide (r.1 ≤ p) && decide (p ≤ r.2)) (g := memB a) 1114112
    have e2 : cntB (fun p => (decide (r.1 ≤ p) && decide (p ≤ r.2)) && memB a p) 1114112 = 0 := by
      rw [cntB_congr (g := fun _ => false), cntB_false]
      intro p h0 h1
      cases hm : memB a p
      · simp
      · have := h.le_head ((memB_iff a p).1 hm)
        rw [decide_eq_false (show ¬ p ≤ r.2 by omega)]; simp
    have e3 := cntB_range r.1 r.2 hr.1 hr.2.1 1114112
    rw [if_neg (by omega)] at e3
    have e3' : (cntB (fun p => decide (r.1 ≤ p) && decide (p ≤ r.2)) 1114112 : Int) = r.2 + 1 - r.1 := by
      rw [e3]; split <;> omega
    clear e3
    have e4 : cntB (memB (r :: a)) 1114112 = cntB (fun p => (decide (r.1 ≤ p) && decide (p ≤ r.2)) || memB a p) 1114112 := cntB_congr _ fun p _ _ => memB_cons r a p
    simp only [countL]
    rw [e4]
    omega
end Go.Proofs.Ytehlijnhhbdbhaa
