/- How many points a set has; roads of the ranges of a set, one behind the other: plain. -/
import Derived.Test.YtihodjfnhkihiaaSpQ
import Derived.Test.YtihodjfnhkihiaaSetA
namespace Go.Proofs.Ytihodjfnhkihiaa
set_option linter.unusedVariables false
def countL : List (Int × Int) → Int
  | [] => 0
  | r :: l => (r.2 + 1 - r.1) + countL l
theorem countL_append (a b : List (Int × Int)) : countL (a ++ b) = countL a + countL b := by
  induction a with
  | nil => simp [countL]
  | cons r a ih => simp [countL, ih]; omega
theorem countL_snoc (a : List (Int × Int)) (r : Int × Int) : countL (a ++ [r]) = countL a + (r.2 + 1 - r.1) := by rw [countL_append]; simp [countL]
/-- how many of the points below k are so -/
def cntB (f : Int → Bool) : Nat → Nat
  | 0 => 0
  | k + 1 => cntB f k + (f k).toNat
theorem cntB_congr {f g : Int → Bool} (k : Nat) (h : ∀ p : Int, 0 ≤ p → p < k → f p = g p) : cntB f k = cntB g k := by
  induction k with
  | zero => rfl
  | succ k ih =>
    simp only [cntB]
    rw [ih fun p h0 h1 => h p h0 (by omega), h k (by omega) (by omega)]
theorem cntB_or {f g : Int → Bool} (k : Nat) : cntB (fun p => f p || g p) k + cntB (fun p => f p && g p) k = cntB f k + cntB g k := by
  induction k with
  | zero => rfl
  | succ k ih =>
    have e : ∀ a b : Bool, (a || b).toNat + (a && b).toNat = a.toNat + b.toNat := by decide
    have := e (f k) (g k)
    simp only [cntB]
    omega
theorem cntB_false (k : Nat) : cntB (fun _ => false) k = 0 := by
  induction k with
  | zero => rfl
  | succ k ih => simp [cntB, ih]
theorem cntB_range (x y : Int) (hx : 0 ≤ x) (hxy : x ≤ y) (k : Nat) : (cntB (fun p => decide (x ≤ p) && decide (p ≤ y)) k : Int) = if (k : Int) ≤ x then 0 else if (k : Int) ≤ y + 1 then (k : Int) - x else y + 1 - x := by
  induction k with
  | zero => simp [cntB, hx]
  | succ k ih =>
    simp only [cntB, Int.natCast_add]
    rw [ih]
    have hb : ((decide (x ≤ (k : Int)) && decide ((k : Int) ≤ y)).toNat : Int) = if x ≤ (k : Int) ∧ (k : Int) ≤ y then 1 else 0 := by
      by_cases h1 : x ≤ (k : Int) <;> by_cases h2 : (k : Int) ≤ y <;> simp [h1, h2]
    rw [hb]
    split <;> split <;> (try split) <;> (try split) <;> (try split) <;> omega
theorem memB_cons (r : Int × Int) (a : List (Int × Int)) (p : Int) : memB (r :: a) p = ((decide (r.1 ≤ p) && decide (p ≤ r.2)) || memB a p) := by simp [memB]
theorem countL_cnt {a : List (Int × Int)} (h : Can a) : countL a = cntB (memB a) 1114112 := by
  induction a with
  | nil => simp only [countL]; rw [show memB [] = fun _ => false from rfl, cntB_false]; rfl
  | cons r a ih =>
    have hr := (okR_iff r).1 h.head.1
    have ih := ih h.tail
    have e1 := cntB_or (f := fun p => decide (r.1 ≤ p) && decide (p ≤ r.2)) (g := memB a) 1114112
    have e2 : cntB (fun p => (decide (r.1 ≤ p) && decide (p ≤ r.2)) && memB a p) 1114112 = 0 := by
      rw [cntB_congr (g := fun _ => false), cntB_false]
      intro p h0 h1
      cases hm : memB a p
      · simp
      · have := h.le_head ((memB_iff a p).1 hm)
        rw [decide_eq_false (show ¬ p ≤ r.2 by omega)]; simp
    have e3 := cntB_range r.1 r.2 hr.1 hr.2.1 1114112
    rw [if_neg (by omega)] at e3
    have e3' : (cntB (fun p => decide (r.1 ≤ p) && decide (p ≤ r.2)) 1114112 : Int) = r.2 + 1 - r.1 := by
      rw [e3]; split <;> omega
    clear e3
    have e4 : cntB (memB (r :: a)) 1114112 = cntB (fun p => (decide (r.1 ≤ p) && decide (p ≤ r.2)) || memB a p) 1114112 := cntB_congr _ fun p _ _ => memB_cons r a p
    simp only [countL]
    rw [e4]
    omega
theorem take_snoc {α : Type} {l : List α} {k : Nat} (h : k < l.length) : l.take (k + 1) = l.take k ++ [l[k]] := List.take_succ_eq_append_getElem h
theorem mem_app (a b : List (Int × Int)) (p : Int) : mem (a ++ b) p ↔ mem a p ∨ mem b p := by
  simp only [mem, List.mem_append]
  constructor
  · rintro ⟨r, h | h, k⟩
    · exact .inl ⟨r, h, k⟩
    · exact .inr ⟨r, h, k⟩
  · rintro (⟨r, h, k⟩ | ⟨r, h, k⟩)
    · exact ⟨r, .inl h, k⟩
    · exact ⟨r, .inr h, k⟩
theorem mem_one (r : Int × Int) (p : Int) : mem [r] p ↔ r.1 ≤ p ∧ p ≤ r.2 := by simp [mem]
theorem Can.take_apart {out : List (Int × Int)} (hc : Can out) {k : Nat} (hk : k < out.length) {p : Int} (h1 : mem (out.take k) p) (h2 : out[k].1 ≤ p) : False := by
  obtain ⟨r, hr, _, hp⟩ := h1
  obtain ⟨j, hj, rfl⟩ := List.mem_take_iff_getElem.1 hr
  have := List.pairwise_iff_getElem.1 hc.2 j k (by omega) hk (by omega)
  omega
theorem RS.range {ls ms : List (List (Int × Int))} {code : Int → List Int} {P : Int → Prop} {m : Int} {out : List (Int × Int)} {k : Nat} (hi : ∀ p q, code p = code q → p = q) (hc : Can out) (hk : k < out.length)
    (h : RS ls code (fun p => P p ∨ mem (out.take k) p) (m + countL (out.take k))) (g : RS ms code (fun p => out[k].1 ≤ p ∧ p ≤ out[k].2) (out[k].2 - out[k].1 + 1)) (hd : ∀ p, P p → mem out p → False) :
    RS (ls ++ ms) code (fun p => P p ∨ mem (out.take (k + 1)) p) (m + countL (out.take (k + 1))) := by
  refine (h.union hi g fun p hp ⟨q1, q2⟩ => ?_).congr (fun p => ?_) ?_
  · rcases hp with hp | hp
    · exact hd p hp ⟨out[k], List.getElem_mem hk, q1, q2⟩
    · exact hc.take_apart hk hp q1
  · rw [take_snoc hk, mem_app, mem_one, or_assoc]
  · rw [take_snoc hk, countL_snoc]; omega
/-! ### the parts of UTF-8 -/
def loU (i : Nat) : Int := if i = 0 then 0 else if i = 1 then 128 else if i = 2 then 2048 else if i = 3 then 57344 else 65536
def hiU (i : Nat) : Int := if i = 0 then 127 else if i = 1 then 2047 else if i = 2 then 55295 else if i = 3 then 65535 else 1114111
def nbU (i : Nat) : Int := if i = 0 then 1 else if i = 1 then 2 else if i = 2 then 3 else if i = 3 then 3 else 4
theorem loU_hiU (i : Nat) : 0 ≤ loU i ∧ loU i ≤ hiU i ∧ hiU i ≤ 1114111 := by
  unfold loU hiU
  repeat' split
  all_goals omega
def ptsU (a : List (Int × Int)) (i : Nat) (p : Int) : Prop := ∃ j, j < i ∧ mem a p ∧ loU j ≤ p ∧ p ≤ hiU j
def ptsB (a : List (Int × Int)) (i : Nat) (p : Int) : Bool := (List.range i).any fun j => memB a p && decide (loU j ≤ p) && decide (p ≤ hiU j)
theorem ptsB_iff (a : List (Int × Int)) (i : Nat) (p : Int) : ptsB a i p = true ↔ ptsU a i p := by
  simp [ptsB, ptsU, memB_iff, and_assoc]
theorem ptsU_succ (a : List (Int × Int)) (i : Nat) (p : Int) : ptsU a (i + 1) p ↔ ptsU a i p ∨ (mem a p ∧ loU i ≤ p ∧ p ≤ hiU i) := by
  unfold ptsU
  constructor
  · rintro ⟨j, hj, h⟩
    by_cases e : j = i
    · subst e; exact .inr h
    · exact .inl ⟨j, by omega, h⟩
  · rintro (⟨j, hj, h⟩ | h)
    · exact ⟨j, by omega, h⟩
    · exact ⟨i, by omega, h⟩
theorem hiU_lt {i j : Nat} (h : j < i) (hi : i < 5) : hiU j < loU i := by
  have : i = 0 ∨ i = 1 ∨ i = 2 ∨ i = 3 ∨ i = 4 := by omega
  have hj : j = 0 ∨ j = 1 ∨ j = 2 ∨ j = 3 := by omega
  unfold hiU loU
  rcases this with rfl | rfl | rfl | rfl | rfl <;> rcases hj with rfl | rfl | rfl | rfl <;> first | omega | decide
theorem ptsU_apart {a : List (Int × Int)} {i : Nat} (hi : i < 5) {p : Int} (h : ptsU a i p) (k : loU i ≤ p) : False := by
  obtain ⟨j, hj, _, _, h2⟩ := h
  have := hiU_lt hj hi
  omega
theorem RS.partU {ls : List (List (Int × Int))} {code : Int → List Int} {a out : List (Int × Int)} {i : Nat} (hi : i < 5) (ho : IsSet out fun p => mem a p ∧ loU i ≤ p ∧ p ≤ hiU i) {m : Int} (hm : m = cntB (ptsB a i) 1114112)
    (h : RS ls code (fun p => ptsU a i p ∨ mem out p) (m + countL out)) : RS ls code (ptsU a (i + 1)) (cntB (ptsB a (i + 1)) 1114112) := by
  refine h.congr (fun p => by rw [ptsU_succ, ho.2 p]) ?_
  rw [countL_cnt ho.1, hm]
  have e1 := cntB_or (f := ptsB a i) (g := memB out) 1114112
  have e2 : cntB (fun p => ptsB a i p && memB out p) 1114112 = 0 := by
    rw [cntB_congr (g := fun _ => false), cntB_false]
    intro p h0 h1
    cases h1 : ptsB a i p
    · rfl
    · cases h2 : memB out p
      · rfl
      · exact (ptsU_apart hi ((ptsB_iff a i p).1 h1) ((ho.2 p).1 ((memB_iff out p).1 h2)).2.1).elim
  have e3 : cntB (ptsB a (i + 1)) 1114112 = cntB (fun p => ptsB a i p || memB out p) 1114112 := cntB_congr _ fun p _ _ => by
    rw [Bool.eq_iff_iff, ptsB_iff, ptsU_succ, Bool.or_eq_true, ptsB_iff, memB_iff, ho.2 p]
  rw [e3]
  omega
end Go.Proofs.Ytihodjfnhkihiaa
