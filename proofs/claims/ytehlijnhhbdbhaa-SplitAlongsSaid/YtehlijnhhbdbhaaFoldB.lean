/- table and beside of the program: walked. -/
import Derived.Test.YtehlijnhhbdbhaaFoldA
namespace Go.Proofs.Ytehlijnhhbdbhaa
open Go.RowKit
set_option linter.unusedVariables false
structure Pr where
  f : Int
  t : Int
  b : Int
  s : Int
deriving DecidableEq
def prs : List Pr → List Value
  | [] => []
  | r :: l => .int .i64 r.f :: .int .i64 r.t :: .int .i64 r.b :: .int .i64 r.s :: prs l
theorem prs_length (l : List Pr) : (prs l).length = l.length * 4 := by
  induction l with
  | nil => rfl
  | cons r l ih => simp [prs, ih]; omega
theorem prs_get (l : List Pr) (k : Nat) (h : k < l.length) : (prs l)[k * 4]? = some (.int .i64 l[k].f) ∧ (prs l)[k * 4 + 1]? = some (.int .i64 l[k].t) ∧ (prs l)[k * 4 + 2]? = some (.int .i64 l[k].b) ∧ (prs l)[k * 4 + 3]? = some (.int .i64 l[k].s) := by
  induction l generalizing k with
  | nil => simp at h
  | cons r l ih =>
    cases k with
    | zero => simp [prs]
    | succ k =>
      have := ih k (by simpa using h)
      rw [show (k + 1) * 4 = k * 4 + 1 + 1 + 1 + 1 from by omega]
      simpa [prs] using this
theorem Rds.pr_at {w : World} {B n : Nat} {A : Option Addr} {l : List Pr} (h : Rds w B 4 A n (prs l)) {k : Nat} (hk : k < n) :
    ∃ b off, ∃ hl : k < l.length, A = some ⟨b, off, none⟩ ∧ b < B ∧ w.cell? ⟨b, off + k * 4, none⟩ = some (.int .i64 l[k].f) ∧ w.cell? ⟨b, off + k * 4 + 1, none⟩ = some (.int .i64 l[k].t) ∧ w.cell? ⟨b, off + k * 4 + 2, none⟩ = some (.int .i64 l[k].b) ∧ w.cell? ⟨b, off + k * 4 + 3, none⟩ = some (.int .i64 l[k].s) := by
  obtain ⟨b, off, e, hb, hc⟩ := h.2 (by omega)
  have hl : k < l.length := by have := h.1; rw [prs_length] at this; omega
  obtain ⟨g1, g2, g3, g4⟩ := prs_get l k hl
  exact ⟨b, off, hl, e, hb, hc _ _ g1, hc _ _ g2, hc _ _ g3, hc _ _ g4⟩
def tbl : List Pr := [⟨65, 90, 32, 1⟩, ⟨192, 214, 32, 1⟩, ⟨216, 222, 32, 1⟩, ⟨256, 302, 1, 2⟩, ⟨913, 929, 32, 1⟩, ⟨931, 939, 32, 1⟩, ⟨1024, 1039, 80, 1⟩, ⟨1040, 1071, 32, 1⟩, ⟨962, 962, 1, 1⟩, ⟨181, 181, 775, 1⟩, ⟨107, 107, 8383, 1⟩, ⟨229, 229, 8262, 1⟩, ⟨223, 223, 7615, 1⟩]
set_option maxRecDepth 100000 in
set_option maxHeartbeats 1000000 in
theorem table157 (w : World) : Calls Try.prog 157 #[] w fun e w' => ∃ g, e = .returned (.slice (some ⟨g, 0, none⟩) 13 13) ∧ Rds w' w'.heap.size 4 (some ⟨g, 0, none⟩) 13 (prs tbl) ∧ Below w.heap.size w w' := by
  have R := Lib.hid (Rds.new w 4 13 (prs tbl).toArray 147 (prs tbl) (by simp) rfl)
  go_enter Try.func157, Try.ntmps157
  go_wp2
  go_ret
  refine ⟨w.heap.size, rfl, ?_, by go_grown⟩
  exact R.out.more (by simp)
def hit (r : Pr) (p : Int) : Bool := decide (r.f ≤ p) && decide (p ≤ r.t) && ((p - r.f) % r.s == 0)
def bes1 (r : Pr) (p : Int) : List Int := (if hit r p then [p + r.b] else []) ++ (if hit r (p - r.b) then [p - r.b] else [])
def besP (p : Int) : List Int := tbl.flatMap fun r => bes1 r p
def okPr (r : Pr) : Bool := decide (0 ≤ r.f) && decide (r.f ≤ 10000) && decide (0 ≤ r.t) && decide (r.t ≤ 10000) && decide (0 ≤ r.b) && decide (r.b ≤ 10000) && (r.s == 1 || r.s == 2)
theorem tbl_ok : ∀ r ∈ tbl, okPr r = true := by decide
theorem bes1_len (r : Pr) (p : Int) : (bes1 r p).length ≤ 2 := by
  unfold bes1; rw [List.length_append]; split <;> split <;> simp
theorem flat_take2 {α β : Type} (f : α → List β) (l : List α) (k : Nat) (h : k < l.length) : (l.take (k + 1)).flatMap f = (l.take k).flatMap f ++ f l[k] := by
  rw [take_snoc' l k h, List.flatMap_append]; simp
end Go.Proofs.Ytehlijnhhbdbhaa
