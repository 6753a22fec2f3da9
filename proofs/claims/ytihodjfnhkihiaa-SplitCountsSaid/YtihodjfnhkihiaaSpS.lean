/- The parts of UTF-16; its bytes, one way or the other: plain. -/
import Derived.Test.YtihodjfnhkihiaaSpR
namespace Go.Proofs.Ytihodjfnhkihiaa
set_option linter.unusedVariables false
def loV (i : Nat) : Int := if i = 0 then 0 else if i = 1 then 57344 else 65536
def hiV (i : Nat) : Int := if i = 0 then 55295 else if i = 1 then 65535 else 1114111
theorem loV_hiV (i : Nat) : 0 ≤ loV i ∧ loV i ≤ hiV i ∧ hiV i ≤ 1114111 := by
  unfold loV hiV
  repeat' split
  all_goals omega
def ptsV (a : List (Int × Int)) (i : Nat) (p : Int) : Prop := ∃ j, j < i ∧ mem a p ∧ loV j ≤ p ∧ p ≤ hiV j
def ptsC (a : List (Int × Int)) (i : Nat) (p : Int) : Bool := (List.range i).any fun j => memB a p && decide (loV j ≤ p) && decide (p ≤ hiV j)
theorem ptsC_iff (a : List (Int × Int)) (i : Nat) (p : Int) : ptsC a i p = true ↔ ptsV a i p := by
  simp [ptsC, ptsV, memB_iff, and_assoc]
theorem ptsV_succ (a : List (Int × Int)) (i : Nat) (p : Int) : ptsV a (i + 1) p ↔ ptsV a i p ∨ (mem a p ∧ loV i ≤ p ∧ p ≤ hiV i) := by
  unfold ptsV
  constructor
  · rintro ⟨j, hj, h⟩
    by_cases e : j = i
    · subst e; exact .inr h
    · exact .inl ⟨j, by omega, h⟩
  · rintro (⟨j, hj, h⟩ | h)
    · exact ⟨j, by omega, h⟩
    · exact ⟨i, by omega, h⟩
theorem hiV_lt {i j : Nat} (h : j < i) (hi : i < 3) : hiV j < loV i := by
  have : i = 0 ∨ i = 1 ∨ i = 2 := by omega
  have hj : j = 0 ∨ j = 1 := by omega
  unfold hiV loV
  rcases this with rfl | rfl | rfl <;> rcases hj with rfl | rfl <;> first | omega | decide
theorem ptsV_apart {a : List (Int × Int)} {i : Nat} (hi : i < 3) {p : Int} (h : ptsV a i p) (k : loV i ≤ p) : False := by
  obtain ⟨j, hj, _, _, h2⟩ := h
  have := hiV_lt hj hi
  omega
theorem RS.partV {ls : List (List (Int × Int))} {code : Int → List Int} {a out : List (Int × Int)} {i : Nat} (hi : i < 3) (ho : IsSet out fun p => mem a p ∧ loV i ≤ p ∧ p ≤ hiV i) {m : Int} (hm : m = cntB (ptsC a i) 1114112)
    (h : RS ls code (fun p => ptsV a i p ∨ mem out p) (m + countL out)) : RS ls code (ptsV a (i + 1)) (cntB (ptsC a (i + 1)) 1114112) := by
  refine h.congr (fun p => by rw [ptsV_succ, ho.2 p]) ?_
  rw [countL_cnt ho.1, hm]
  have e1 := cntB_or (f := ptsC a i) (g := memB out) 1114112
  have e2 : cntB (fun p => ptsC a i p && memB out p) 1114112 = 0 := by
    rw [cntB_congr (g := fun _ => false), cntB_false]
    intro p h0 h1
    cases h1 : ptsC a i p
    · rfl
    · cases h2 : memB out p
      · rfl
      · exact (ptsV_apart hi ((ptsC_iff a i p).1 h1) ((ho.2 p).1 ((memB_iff out p).1 h2)).2.1).elim
  have e3 : cntB (ptsC a (i + 1)) 1114112 = cntB (fun p => ptsC a i p || memB out p) 1114112 := cntB_congr _ fun p _ _ => by
    rw [Bool.eq_iff_iff, ptsC_iff, ptsV_succ, Bool.or_eq_true, ptsC_iff, memB_iff, ho.2 p]
  rw [e3]
  omega
/-- the bytes of UTF-16, turned or not -/
def codeT (little : Bool) (p : Int) : List Int := if little = true then turnL (code16 p) else code16 p
theorem codeT_inj (little : Bool) : ∀ p q, codeT little p = codeT little q → p = q := by
  intro p q h
  unfold codeT at h
  cases little
  · exact code16_inj h
  · exact code16_inj (turnL_inj h)
theorem RS.startV (little : Bool) (a : List (Int × Int)) : RS [] (codeT little) (ptsV a 0) (cntB (ptsC a 0) 1114112) :=
  (RS.nil _).congr (fun p => ⟨fun h => h.elim, fun ⟨j, hj, _⟩ => by omega⟩) (by rw [show ptsC a 0 = fun _ => false from rfl, cntB_false]; rfl)
theorem RS.turnT {ls : List (List (Int × Int))} {P : Int → Prop} {m : Int} (h : RS ls code16 P m) (little : Bool) : RS (ls.map fun r => if little = true then turnL r else r) (codeT little) P m := by
  cases little
  · have e : (ls.map fun r => if false = true then turnL r else r) = ls := by simp
    rw [e]
    exact h
  · exact h.turn
end Go.Proofs.Ytihodjfnhkihiaa
