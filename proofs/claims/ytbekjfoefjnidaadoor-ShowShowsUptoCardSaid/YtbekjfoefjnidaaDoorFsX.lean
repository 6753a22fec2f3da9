/- rightNode of the reference: walked. -/
import Derived.Test.YtbekjfoefjnidaaDoorFsQ
import Derived.Test.YtbekjfoefjnidaaDoorSetD
namespace Go.Proofs.YtbekjfoefjnidaaDoor
open Go.RowKit
set_option linter.unusedVariables false
def kLo (k : Int) : Int := if k = 9 ∨ k = 10 then 2 else if 11 ≤ k ∧ k ≤ 17 then 1 else 0
def kHi (k : Int) : Int := if k = 9 ∨ k = 10 then -1 else if 11 ≤ k ∧ k ≤ 17 then 1 else 0
theorem kids_lohi (t : Tr) : kidsBad t = (decide ((t.kids.length : Int) < kLo t.kind) || (decide (0 ≤ kHi t.kind) && decide (kHi t.kind < (t.kids.length : Int)))) := by
  unfold kidsBad kLo kHi
  by_cases h1 : t.kind = 9 ∨ t.kind = 10
  · rw [if_pos h1, if_pos h1, if_pos h1, Bool.eq_iff_iff]; simp; omega
  · rw [if_neg h1, if_neg h1, if_neg h1]
    by_cases h2 : 11 ≤ t.kind ∧ t.kind ≤ 17
    · simp only [if_pos h2]; rw [Bool.eq_iff_iff]; simp; omega
    · simp only [if_neg h2]; rw [Bool.eq_iff_iff, bne_iff_ne]; simp only [Bool.or_eq_true, Bool.and_eq_true, decide_eq_true_eq]; omega
/-- the node's own faults, one by one -/
structure Parts (t : Tr) (d : ND) (kb a1 a2 a3 a4 : Bool) : Prop where
  kb : kb = kidsBad t
  a1 : a1 = (d.kind != 2 && decide (0 < d.sn))
  a2 : a2 = (d.kind != 12 && (d.least != 0 || d.most != 0 || d.way != 0))
  a3 : a3 = (d.kind != 11 && d.kind != 18 && d.num != 0)
  a4 : a4 = (d.kind != 18 && d.fold)
theorem Parts.all {w : World} {B : Nat} {t : Tr} {d : ND} {ds : List ND} {kb a1 a2 a3 a4 : Bool} (p : Parts t d kb a1 a2 a3 a4) (h : NodeOf w B t d ds) :
    (kidsBad t || fieldsBad t) = (kb || a1 || a2 || a3 || a4 || t.kids.any fun x => kidBad d.kind x.kind) := by
  obtain ⟨rfl, rfl, rfl, rfl, rfl⟩ := p
  unfold fieldsBad
  rw [h.kind, h.least, h.most, h.way, h.num, h.fold, ← h.snum]
  simp only [Bool.or_assoc]
def repBad (t : Tr) : Bool := decide (t.least < 0) || decide (100 < t.least) || decide (t.most < -1) || decide (100 < t.most) || (decide (0 ≤ t.most) && decide (t.most < t.least))
theorem repE_bad (t : Tr) : repE t = if repBad t = true then 3 else if (decide (1 ≤ t.way) && decide (t.way ≤ 3)) = true then 0 else 7 := by
  have e1 : ((t.least < 0 ∨ 100 < t.least) ∨ t.most < -1 ∨ 100 < t.most ∨ (0 ≤ t.most ∧ t.most < t.least)) ↔ repBad t = true := by
    unfold repBad; simp [or_assoc]
  have e2 : (1 ≤ t.way ∧ t.way ≤ 3) ↔ (decide (1 ≤ t.way) && decide (t.way ≤ 3)) = true := by simp
  unfold repE
  rw [ite_congr (propext e1) (fun _ => rfl) (fun _ => rfl), ite_congr (propext (not_congr e2)) (fun _ => rfl) (fun _ => rfl)]
  split
  · rfl
  · split
    · simp
    · rename_i h; simpa using h
set_option maxHeartbeats 1000000 in
theorem kidsOf44 (k : Int) (w : World) : Calls Tryd.prog 30 #[.int .i64 k] w fun e w' => e = .returned (.tuple #[.int .i64 (kLo k), .int .i64 (kHi k)]) ∧ w = w' := by
  have HL := Lib.hid (show kLo k = if k = 9 ∨ k = 10 then 2 else if (decide (11 ≤ k) && decide (k ≤ 17)) = true then 1 else 0 by unfold kLo; simp)
  have HH := Lib.hid (show kHi k = if k = 9 ∨ k = 10 then -1 else if (decide (11 ≤ k) && decide (k ≤ 17)) = true then 1 else 0 by unfold kHi; simp)
  rw [HL.out, HH.out]
  clear HL HH
  have C := Lib.hid (fun w => between_keep k 11 17 w)
  obtain ⟨b, hb⟩ : ∃ b, b = (decide (11 ≤ k) && decide (k ≤ 17)) := ⟨_, rfl⟩
  rw [← hb] at C ⊢
  have HB := Lib.hid hb
  clear hb
  go_enter Tryd.func30, Tryd.ntmps30
  cases b
  all_goals
    go_wp2_with (go_at_call 19; refine (C.out _).mono ?_; rintro e w' ⟨rfl, rfl⟩)
    all_goals
      go_ret2
      first
        | (refine ⟨?_, rfl⟩; simp_all)
        | simp_all
end Go.Proofs.YtbekjfoefjnidaaDoor
