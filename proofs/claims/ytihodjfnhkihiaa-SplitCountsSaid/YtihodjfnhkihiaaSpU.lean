/- What Roads answers: roads of the scalars of a set, in their order: plain. No condition. -/
import Derived.Test.YtihodjfnhkihiaaSpT
import Derived.Test.YtihodjfnhkihiaaSpQ
namespace Go.Proofs.Ytihodjfnhkihiaa
set_option linter.unusedVariables false
set_option linter.unusedSimpArgs false
def scalB (enc p : Int) : Bool := if enc = 4 then decide (0 ≤ p) && decide (p ≤ 255) else decide (0 ≤ p) && decide (p ≤ 1114111) && (decide (p < 55296) || decide (57343 < p))
theorem scalB_iff (enc p : Int) : scalB enc p = true ↔ ScalE enc p := by
  unfold scalB ScalE
  split <;> simp [and_assoc]
def roadE (enc : Int) (a : List (Int × Int)) : Int := if 1 ≤ enc ∧ enc ≤ 4 then chk a else 7
def FinR (enc : Int) (a : List (Int × Int)) (ls : List (List (Int × Int))) : Prop :=
  RS ls (codeE enc) (fun p => mem a p ∧ ScalE enc p) (cntB (fun p => memB a p && scalB enc p) 1114112) ∧ ls.Pairwise fun a b => lexB (keyR b) (keyR a) = false
theorem sizeR_perm {ls ms : List (List (Int × Int))} (h : ms.Perm ls) : sizeR ms = sizeR ls := by
  induction h with
  | nil => rfl
  | cons r _ ih => simp [sizeR, ih]
  | swap r s l => simp only [sizeR]; omega
  | trans _ _ h1 h2 => rw [h1, h2]
theorem RS.perm {ls ms : List (List (Int × Int))} {code : Int → List Int} {P : Int → Prop} {m : Int} (h : RS ls code P m) (p : ms.Perm ls) : RS ms code P m :=
  ⟨h.cov.perm p, fun r hr => h.shape r (p.mem_iff.1 hr), by rw [sizeR_perm p]; exact h.size⟩
theorem Can.mem_in {a : List (Int × Int)} (h : Can a) {p : Int} (k : mem a p) : 0 ≤ p ∧ p ≤ 1114111 := by
  obtain ⟨r, hr, h1, h2⟩ := k
  have := (okR_iff _).1 (h.1 r hr)
  omega
theorem ptsU_all {a : List (Int × Int)} (h : Can a) (p : Int) : ptsU a 5 p ↔ mem a p ∧ ScalE 1 p := by
  unfold ptsU ScalE
  rw [if_neg (by decide)]
  constructor
  · rintro ⟨j, hj, k, h1, h2⟩
    refine ⟨k, ?_⟩
    have hc : j = 0 ∨ j = 1 ∨ j = 2 ∨ j = 3 ∨ j = 4 := by omega
    unfold loU at h1
    unfold hiU at h2
    rcases hc with rfl | rfl | rfl | rfl | rfl <;> simp at h1 h2 <;> omega
  · rintro ⟨k, h0, h1, h2⟩
    by_cases c1 : p ≤ 127
    · exact ⟨0, by omega, k, by unfold loU; simp; omega, by unfold hiU; simp; omega⟩
    by_cases c2 : p ≤ 2047
    · exact ⟨1, by omega, k, by unfold loU; simp; omega, by unfold hiU; simp; omega⟩
    by_cases c3 : p ≤ 55295
    · exact ⟨2, by omega, k, by unfold loU; simp; omega, by unfold hiU; simp; omega⟩
    by_cases c4 : p ≤ 65535
    · exact ⟨3, by omega, k, by unfold loU; simp; omega, by unfold hiU; simp; omega⟩
    · exact ⟨4, by omega, k, by unfold loU; simp; omega, by unfold hiU; simp; omega⟩
theorem ptsV_all {a : List (Int × Int)} (h : Can a) {enc : Int} (he : enc ≠ 4) (p : Int) : ptsV a 3 p ↔ mem a p ∧ ScalE enc p := by
  unfold ptsV ScalE
  rw [if_neg he]
  constructor
  · rintro ⟨j, hj, k, h1, h2⟩
    refine ⟨k, ?_⟩
    have hc : j = 0 ∨ j = 1 ∨ j = 2 := by omega
    unfold loV at h1
    unfold hiV at h2
    rcases hc with rfl | rfl | rfl <;> simp at h1 h2 <;> omega
  · rintro ⟨k, h0, h1, h2⟩
    by_cases c3 : p ≤ 55295
    · exact ⟨0, by omega, k, by unfold loV; simp; omega, by unfold hiV; simp; omega⟩
    by_cases c4 : p ≤ 65535
    · exact ⟨1, by omega, k, by unfold loV; simp; omega, by unfold hiV; simp; omega⟩
    · exact ⟨2, by omega, k, by unfold loV; simp; omega, by unfold hiV; simp; omega⟩
theorem RS.fin8 {a : List (Int × Int)} (hc : Can a) {ls : List (List (Int × Int))} (h : RS ls code8 (ptsU a 5) (cntB (ptsB a 5) 1114112)) : RS ls (codeE 1) (fun p => mem a p ∧ ScalE 1 p) (cntB (fun p => memB a p && scalB 1 p) 1114112) := by
  have e : codeE 1 = code8 := by funext p; simp [codeE]
  rw [e]
  refine h.congr (ptsU_all hc) ?_
  refine congrArg (fun k : Nat => (k : Int)) (cntB_congr _ fun p _ _ => ?_)
  rw [Bool.eq_iff_iff, ptsB_iff, ptsU_all hc, Bool.and_eq_true, memB_iff, scalB_iff]
theorem RS.fin16 {a : List (Int × Int)} (hc : Can a) {ls : List (List (Int × Int))} {enc : Int} (he : enc = 2 ∨ enc = 3) (h : RS ls (codeT (decide (enc = 2))) (ptsV a 3) (cntB (ptsC a 3) 1114112)) : RS ls (codeE enc) (fun p => mem a p ∧ ScalE enc p) (cntB (fun p => memB a p && scalB enc p) 1114112) := by
  have e : codeE enc = codeT (decide (enc = 2)) := by
    funext p
    rcases he with rfl | rfl <;> simp [codeE, codeT]
  rw [e]
  have hn : enc ≠ 4 := by omega
  refine h.congr (ptsV_all hc hn) ?_
  refine congrArg (fun k : Nat => (k : Int)) (cntB_congr _ fun p _ _ => ?_)
  rw [Bool.eq_iff_iff, ptsC_iff, ptsV_all hc hn, Bool.and_eq_true, memB_iff, scalB_iff]
theorem code1_inj : ∀ p q : Int, [p] = [q] → p = q := fun p q h => by injection h
theorem RS.one1 {x y : Int} (h0 : 0 ≤ x) (h1 : x ≤ y) (h2 : y ≤ 255) : RS [[(x, y)]] (fun p => [p]) (fun p => x ≤ p ∧ p ≤ y) (y - x + 1) := by
  have h := RC.one 256 0 0 (a := x) (b := y) (by omega) h1 (by omega)
  rw [Int.zero_add, Int.zero_add] at h
  exact h.rs (ENum.code fun p _ _ => by simp [encB]) (by decide) (by decide)
theorem RS.fin1 {a out : List (Int × Int)} (hc : Can a) {ls : List (List (Int × Int))} (ho : IsSet out fun p => mem a p ∧ 0 ≤ p ∧ p ≤ 255) (h : RS ls (fun p => [p]) (fun p => False ∨ mem out p) (0 + countL out)) : RS ls (codeE 4) (fun p => mem a p ∧ ScalE 4 p) (cntB (fun p => memB a p && scalB 4 p) 1114112) := by
  have e : codeE 4 = fun p => [p] := by funext p; simp [codeE]
  rw [e]
  refine h.congr (fun p => ?_) ?_
  · rw [ho.2 p]; unfold ScalE; simp
  · rw [countL_cnt ho.1, Int.zero_add]
    refine congrArg (fun k : Nat => (k : Int)) (cntB_congr _ fun p _ _ => ?_)
    rw [Bool.eq_iff_iff, memB_iff, ho.2, Bool.and_eq_true, memB_iff, scalB_iff]; unfold ScalE; simp
end Go.Proofs.Ytihodjfnhkihiaa
