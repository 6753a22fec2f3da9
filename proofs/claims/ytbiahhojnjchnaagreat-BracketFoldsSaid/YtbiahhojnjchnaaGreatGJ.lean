/-
  HasInt and SameInts of the reference, slices.Index and Contains at ints: walked. table and beside of the program: walked.
-/
import Derived.Test.YtbiahhojnjchnaaGreatGI
set_option linter.unusedVariables false
set_option linter.unusedSimpArgs false
namespace Go.Proofs.YtbiahhojnjchnaaGreat
open Go.RowKit
def hasI (l : List Int) (x : Int) : Bool := l.any fun y => y == x
theorem hasI_iff (l : List Int) (x : Int) : hasI l x = true ↔ x ∈ l := by simp [hasI]
theorem hasI_at {l : List Int} {x : Int} (k : Nat) (h : k < l.length) (hx : l[k] = x) : hasI l x = true := by
  rw [hasI_iff, ← hx]; exact List.getElem_mem h
theorem hasI_snoc (l : List Int) (y x : Int) : hasI (l ++ [y]) x = (hasI l x || y == x) := by simp [hasI]
theorem hasI_all {l : List Int} {x : Int} (h : hasI (l.take l.length) x = false) : hasI l x = false := by rwa [List.take_length] at h
set_option maxHeartbeats 1000000 in
theorem hasInt64 (l : List Int) (x : Int) (A : Option Addr) (n c : Nat) (w : World) (hn : n ≤ maxLen) (ha : Rds w w.heap.size 1 A n (ints l)) :
    Calls Tryz.prog 18 #[.slice A n c, .int .i64 x] w fun e w' => e = .returned (.bool (hasI l x)) ∧ w = w' := by
  have HL := Lib.hid ha.ints_len
  unfold maxLen at hn
  go_enter Tryz.func18, Tryz.ntmps18
  go_wp2_with fail
  go_loop [5] (fun i => ∃ k : Nat, k ≤ n ∧ i = .int .i64 k ∧ hasI (l.take k) x = false) (fun i => n - (intOf i).toNat)
  case atStart => exact ⟨0, Nat.zero_le _, rfl, rfl⟩
  case round =>
    obtain ⟨k, hk, rfl, hall⟩ := hrel
    have HALL := Lib.hid hall
    clear hall
    by_cases hlt : k < n
    · obtain ⟨b1, off1, hl1, hA, hb1, hc1⟩ := ha.int_at hlt
      subst hA
      have HT := Lib.hid (take_snoc' l k hl1)
      have HM := Lib.hid (hasI_at (x := x) k hl1)
      obtain ⟨y, hy⟩ : ∃ r, r = l[k] := ⟨_, rfl⟩
      rw [← hy] at hc1 HT HM
      clear hy
      by_cases hxy : y = x
      · subst hxy
        go_wp2
        go_ret
        exact ⟨ret_bool (HM.out (by trivial)).symm, rfl⟩
      · have hb : (y == x) = false := beq_eq_false_iff_ne.2 hxy
        have HB := Lib.hid hb
        clear hxy
        go_wp2
        go_round
        case rel => exact ⟨k + 1, by omega, by go_num, by rw [HT.out, hasI_snoc, HALL.out, HB.out]; rfl⟩
        case measure => simp [intOf]; omega
    · obtain rfl : k = n := by omega
      go_wp2
      go_ret
      exact ⟨ret_bool (hasI_all (by rw [HL.out]; exact HALL.out)).symm, rfl⟩
def sameI (a b : List Int) : Bool := decide (a = b)
theorem sameI_len {a b : List Int} (h : a.length ≠ b.length) : sameI a b = false := by simp [sameI]; intro e; exact h (by rw [e])
theorem sameI_at {a b : List Int} (k : Nat) (h1 : k < a.length) (h2 : k < b.length) (h : a[k] ≠ b[k]) : sameI a b = false := by
  simp [sameI]; intro e; subst e; exact h rfl
theorem sameI_all {a b : List Int} (hl : a.length = b.length) (h : a.take a.length = b.take a.length) : sameI a b = true := by
  have : a = b := by rw [List.take_length, hl, List.take_length] at h; exact h
  simp [sameI, this]
set_option maxHeartbeats 1000000 in
theorem index158 (l : List Int) (x : Int) (A : Option Addr) (n c : Nat) (w : World) (hn : n ≤ maxLen) (ha : Rds w w.heap.size 1 A n (ints l)) :
    Calls Tryz.prog 167 #[.slice A n c, .int .i64 x] w fun e w' => (∃ i : Int, e = .returned (.int .i64 i) ∧ decide (0 ≤ i) = hasI l x) ∧ w = w' := by
  have HL := Lib.hid ha.ints_len
  unfold maxLen at hn
  go_enter Tryz.func167, Tryz.ntmps167
  go_wp2_with fail
  go_loop [8] (fun i => ∃ k : Nat, k ≤ n ∧ i = .int .i64 k ∧ hasI (l.take k) x = false) (fun i => n - (intOf i).toNat)
  case atStart => exact ⟨0, Nat.zero_le _, rfl, rfl⟩
  case round =>
    obtain ⟨k, hk, rfl, hall⟩ := hrel
    have HALL := Lib.hid hall
    clear hall
    by_cases hlt : k < n
    · obtain ⟨b1, off1, hl1, hA, hb1, hc1⟩ := ha.int_at hlt
      subst hA
      have HT := Lib.hid (take_snoc' l k hl1)
      have HM := Lib.hid (hasI_at (x := x) k hl1)
      obtain ⟨y, hy⟩ : ∃ r, r = l[k] := ⟨_, rfl⟩
      rw [← hy] at hc1 HT HM
      clear hy
      by_cases hxy : y = x
      · subst hxy
        go_wp2
        go_ret
        exact ⟨⟨k, rfl, by rw [HM.out (by trivial)]; simp⟩, rfl⟩
      · have hb : (x == y) = false := beq_eq_false_iff_ne.2 (fun e => hxy e.symm)
        have HB := Lib.hid (show (y == x) = false from beq_eq_false_iff_ne.2 hxy)
        clear hxy
        go_wp2
        go_round
        case rel => exact ⟨k + 1, by omega, by go_num, by rw [HT.out, hasI_snoc, HALL.out, HB.out]; rfl⟩
        case measure => simp [intOf]; omega
    · obtain rfl : k = n := by omega
      go_wp2
      go_ret
      refine ⟨⟨-1, rfl, ?_⟩, rfl⟩
      rw [hasI_all (by rw [HL.out]; exact HALL.out)]; rfl
set_option maxHeartbeats 1000000 in
theorem contains138 (l : List Int) (x : Int) (A : Option Addr) (n c : Nat) (w : World) (hn : n ≤ maxLen) (ha : Rds w w.heap.size 1 A n (ints l)) :
    Calls Tryz.prog 127 #[.slice A n c, .int .i64 x] w fun e w' => e = .returned (.bool (hasI l x)) ∧ w = w' := by
  go_enter Tryz.func127, Tryz.ntmps127
  go_wp2_with fail
  refine (index158 l x A n c w hn ha).mono ?_
  rintro e w' ⟨⟨i, rfl, hi⟩, rfl⟩
  have HI := Lib.hid hi
  clear hi
  go_wp2
  go_ret
  exact ⟨ret_bool HI.out, rfl⟩
set_option maxHeartbeats 400000 in
theorem isPoint107 (p : Int) (b : Bool) (w : World) (h : (decide (0 ≤ p) && decide (p ≤ 1114111)) = b) : Calls Tryz.prog 109 #[.int .i64 p] w fun e w' => e = .returned (.bool b) ∧ w = w' := by
  subst h
  go_enter Tryz.func109, Tryz.ntmps109
  go_wp2
  all_goals (go_ret; refine ⟨ret_bool ?_, rfl⟩; simp_all; try omega)
end Go.Proofs.YtbiahhojnjchnaaGreat
namespace Go.Proofs.YtbiahhojnjchnaaGreat
open Go.RowKit
structure Pr where
  f : Int
  t : Int
  b : Int
  s : Int
deriving DecidableEq
def prs : List Pr → List Value
  | [] => []
  | r :: l => .int .i64 r.f :: .int .i64 r.t :: .int .i64 r.b :: .int .i64 r.s :: prs l
theorem prs_length (l : List Pr) : (prs l).length = l.length * 4 := by
  induction l with
  | nil => rfl
  | cons r l ih => simp [prs, ih]; omega
theorem prs_get (l : List Pr) (k : Nat) (h : k < l.length) : (prs l)[k * 4]? = some (.int .i64 l[k].f) ∧ (prs l)[k * 4 + 1]? = some (.int .i64 l[k].t) ∧ (prs l)[k * 4 + 2]? = some (.int .i64 l[k].b) ∧ (prs l)[k * 4 + 3]? = some (.int .i64 l[k].s) := by
  induction l generalizing k with
  | nil => simp at h
  | cons r l ih =>
    cases k with
    | zero => simp [prs]
    | succ k =>
      have := ih k (by simpa using h)
      rw [show (k + 1) * 4 = k * 4 + 1 + 1 + 1 + 1 from by omega]
      simpa [prs] using this
theorem Rds.pr_at {w : World} {B n : Nat} {A : Option Addr} {l : List Pr} (h : Rds w B 4 A n (prs l)) {k : Nat} (hk : k < n) :
    ∃ b off, ∃ hl : k < l.length, A = some ⟨b, off, none⟩ ∧ b < B ∧ w.cell? ⟨b, off + k * 4, none⟩ = some (.int .i64 l[k].f) ∧ w.cell? ⟨b, off + k * 4 + 1, none⟩ = some (.int .i64 l[k].t) ∧ w.cell? ⟨b, off + k * 4 + 2, none⟩ = some (.int .i64 l[k].b) ∧ w.cell? ⟨b, off + k * 4 + 3, none⟩ = some (.int .i64 l[k].s) := by
  obtain ⟨b, off, e, hb, hc⟩ := h.2 (by omega)
  have hl : k < l.length := by have := h.1; rw [prs_length] at this; omega
  obtain ⟨g1, g2, g3, g4⟩ := prs_get l k hl
  exact ⟨b, off, hl, e, hb, hc _ _ g1, hc _ _ g2, hc _ _ g3, hc _ _ g4⟩
def tbl : List Pr := [⟨65, 90, 32, 1⟩, ⟨192, 214, 32, 1⟩, ⟨216, 222, 32, 1⟩, ⟨256, 302, 1, 2⟩, ⟨913, 929, 32, 1⟩, ⟨931, 939, 32, 1⟩, ⟨1024, 1039, 80, 1⟩, ⟨1040, 1071, 32, 1⟩, ⟨962, 962, 1, 1⟩, ⟨181, 181, 775, 1⟩, ⟨107, 107, 8383, 1⟩, ⟨229, 229, 8262, 1⟩, ⟨223, 223, 7615, 1⟩]
set_option maxRecDepth 100000 in
set_option maxHeartbeats 1000000 in
theorem table157 (w : World) : Calls Tryz.prog 106 #[] w fun e w' => ∃ g, e = .returned (.slice (some ⟨g, 0, none⟩) 13 13) ∧ Rds w' w'.heap.size 4 (some ⟨g, 0, none⟩) 13 (prs tbl) ∧ Below w.heap.size w w' := by
  have R := Lib.hid (Rds.new w 4 13 (prs tbl).toArray 138 (prs tbl) (by simp) rfl)
  go_enter Tryz.func106, Tryz.ntmps106
  go_wp2
  go_ret
  refine ⟨w.heap.size, rfl, ?_, by go_grown⟩
  exact R.out.more (by simp)
def hit (r : Pr) (p : Int) : Bool := decide (r.f ≤ p) && decide (p ≤ r.t) && ((p - r.f) % r.s == 0)
def bes1 (r : Pr) (p : Int) : List Int := (if hit r p then [p + r.b] else []) ++ (if hit r (p - r.b) then [p - r.b] else [])
def besP (p : Int) : List Int := tbl.flatMap fun r => bes1 r p
def okPr (r : Pr) : Bool := decide (0 ≤ r.f) && decide (r.f ≤ 10000) && decide (0 ≤ r.t) && decide (r.t ≤ 10000) && decide (0 ≤ r.b) && decide (r.b ≤ 10000) && (r.s == 1 || r.s == 2)
theorem tbl_ok : ∀ r ∈ tbl, okPr r = true := by decide
theorem bes1_len (r : Pr) (p : Int) : (bes1 r p).length ≤ 2 := by
  unfold bes1; rw [List.length_append]; split <;> split <;> simp
theorem flat_take2 {α β : Type} (f : α → List β) (l : List α) (k : Nat) (h : k < l.length) : (l.take (k + 1)).flatMap f = (l.take k).flatMap f ++ f l[k] := by
  rw [take_snoc' l k h, List.flatMap_append]; simp
end Go.Proofs.YtbiahhojnjchnaaGreat
