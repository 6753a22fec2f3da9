/- InClass of the reference: walked at each name. -/
import Derived.Test.YtehlijnhhbdbhaaFoldO
namespace Go.Proofs.Ytehlijnhhbdbhaa
open Go.RowKit
set_option linter.unusedVariables false
/-- what InClass answers -/
def InC (w : World) (l : List (Int × Int)) (p : Int) (e : Ending) (w' : World) : Prop := ∃ b, e = .returned (.bool b) ∧ (b = true ↔ mem l p) ∧ w = w'
theorem mem_evens (a : Int) (k : Nat) (p : Int) : mem (evens a k) p ↔ a ≤ p ∧ p < a + 2 * k ∧ (p - a) % 2 = 0 := by
  induction k with
  | zero => simp [evens, mem]; omega
  | succ k ih =>
    rw [show evens a (k + 1) = evens a k ++ [(a + 2 * k, a + 2 * k)] from rfl, mem_append, mem_cons, ih]
    have := mem_nil p
    constructor
    · rintro (h | h | h)
      · omega
      · omega
      · exact absurd h this
    · intro h
      by_cases e : p = a + 2 * k
      · exact .inr (.inl (by omega))
      · exact .inl (by omega)
set_option maxRecDepth 100000 in
set_option maxHeartbeats 4000000 in
theorem inC_any (p : Int) (w : World) : Calls Try.prog 66 #[.string ⟨#[97, 110, 121]⟩, .int .i64 p] w (InC w l_any p) := by
  go_enter Try.func66, Try.ntmps66
  go_wp2_with (go_at_call 45; refine (isPoint_any _ _).mono ?_; rintro e w' ⟨rfl, rfl⟩)
  all_goals (go_ret; refine ⟨_, rfl, ?_, rfl⟩; simp only [l_any, mem_cons, mem_nil, or_false]; simp_all <;> omega)
set_option maxRecDepth 100000 in
set_option maxHeartbeats 4000000 in
theorem inC_ascii (p : Int) (w : World) : Calls Try.prog 66 #[.string ⟨#[97, 115, 99, 105, 105]⟩, .int .i64 p] w (InC w l_ascii p) := by
  go_enter Try.func66, Try.ntmps66
  go_wp2_with (go_at_call 90; refine (between_any _ _ _ _).mono ?_; rintro e w' ⟨rfl, rfl⟩)
  all_goals (go_ret; refine ⟨_, rfl, ?_, rfl⟩; simp only [l_ascii, mem_cons, mem_nil, or_false]; simp_all <;> omega)
set_option maxRecDepth 100000 in
set_option maxHeartbeats 4000000 in
theorem inC_cntrl (p : Int) (w : World) : Calls Try.prog 66 #[.string ⟨#[99, 110, 116, 114, 108]⟩, .int .i64 p] w (InC w l_cntrl p) := by
  go_enter Try.func66, Try.ntmps66
  go_wp2_with (go_at_call 90; refine (between_any _ _ _ _).mono ?_; rintro e w' ⟨rfl, rfl⟩)
  all_goals (go_ret; refine ⟨_, rfl, ?_, rfl⟩; simp only [l_cntrl, mem_cons, mem_nil, or_false]; simp_all <;> omega)
set_option maxRecDepth 100000 in
set_option maxHeartbeats 4000000 in
theorem inC_digit (p : Int) (w : World) : Calls Try.prog 66 #[.string ⟨#[100, 105, 103, 105, 116]⟩, .int .i64 p] w (InC w l_digit p) := by
  go_enter Try.func66, Try.ntmps66
  go_wp2_with (go_at_call 90; refine (between_any _ _ _ _).mono ?_; rintro e w' ⟨rfl, rfl⟩)
  all_goals (go_ret; refine ⟨_, rfl, ?_, rfl⟩; simp only [l_digit, mem_cons, mem_nil, or_false]; simp_all <;> omega)
set_option maxRecDepth 100000 in
set_option maxHeartbeats 4000000 in
theorem inC_xdigit (p : Int) (w : World) : Calls Try.prog 66 #[.string ⟨#[120, 100, 105, 103, 105, 116]⟩, .int .i64 p] w (InC w l_xdigit p) := by
  go_enter Try.func66, Try.ntmps66
  go_wp2_with (go_at_call 90; refine (between_any _ _ _ _).mono ?_; rintro e w' ⟨rfl, rfl⟩)
  all_goals (go_ret; refine ⟨_, rfl, ?_, rfl⟩; simp only [l_xdigit, mem_cons, mem_nil, or_false]; simp_all <;> omega)
set_option maxRecDepth 100000 in
set_option maxHeartbeats 4000000 in
theorem inC_blank (p : Int) (w : World) : Calls Try.prog 66 #[.string ⟨#[98, 108, 97, 110, 107]⟩, .int .i64 p] w (InC w l_blank p) := by
  go_enter Try.func66, Try.ntmps66
  go_wp2_with (go_at_call 90; refine (between_any _ _ _ _).mono ?_; rintro e w' ⟨rfl, rfl⟩)
  all_goals (go_ret; refine ⟨_, rfl, ?_, rfl⟩; simp only [l_blank, mem_cons, mem_nil, or_false]; simp_all <;> omega)
set_option maxRecDepth 100000 in
set_option maxHeartbeats 4000000 in
theorem inC_space (p : Int) (w : World) : Calls Try.prog 66 #[.string ⟨#[115, 112, 97, 99, 101]⟩, .int .i64 p] w (InC w l_space p) := by
  go_enter Try.func66, Try.ntmps66
  go_wp2_with (go_at_call 90; refine (between_any _ _ _ _).mono ?_; rintro e w' ⟨rfl, rfl⟩)
  all_goals (go_ret; refine ⟨_, rfl, ?_, rfl⟩; simp only [l_space, mem_cons, mem_nil, or_false]; simp_all <;> omega)
set_option maxRecDepth 100000 in
set_option maxHeartbeats 4000000 in
theorem inC_punct (p : Int) (w : World) : Calls Try.prog 66 #[.string ⟨#[112, 117, 110, 99, 116]⟩, .int .i64 p] w (InC w l_punct p) := by
  go_enter Try.func66, Try.ntmps66
  go_wp2_with (go_at_call 90; refine (between_any _ _ _ _).mono ?_; rintro e w' ⟨rfl, rfl⟩)
  all_goals (go_ret; refine ⟨_, rfl, ?_, rfl⟩; simp only [l_punct, mem_cons, mem_nil, or_false]; simp_all <;> omega)
set_option maxRecDepth 100000 in
set_option maxHeartbeats 4000000 in
theorem inC_alpha (p : Int) (w : World) : Calls Try.prog 66 #[.string ⟨#[97, 108, 112, 104, 97]⟩, .int .i64 p] w (InC w l_alpha p) := by
  go_enter Try.func66, Try.ntmps66
  go_wp2_with (go_at_call 90; refine (between_any _ _ _ _).mono ?_; rintro e w' ⟨rfl, rfl⟩)
  all_goals (go_ret; refine ⟨_, rfl, ?_, rfl⟩; simp only [l_alpha, mem_cons, mem_nil, or_false]; simp_all <;> omega)
set_option maxRecDepth 100000 in
set_option maxHeartbeats 4000000 in
theorem inC_upper (p : Int) (w : World) : Calls Try.prog 66 #[.string ⟨#[117, 112, 112, 101, 114]⟩, .int .i64 p] w (InC w l_upper p) := by
  go_enter Try.func66, Try.ntmps66
  go_wp2_with (go_at_call 90; refine (between_any _ _ _ _).mono ?_; rintro e w' ⟨rfl, rfl⟩)
  all_goals (go_ret; refine ⟨_, rfl, ?_, rfl⟩; simp only [l_upper, mem_append, mem_evens, mem_cons, mem_nil, or_false]; simp_all <;> omega)
set_option maxRecDepth 100000 in
set_option maxHeartbeats 4000000 in
theorem inC_lower (p : Int) (w : World) : Calls Try.prog 66 #[.string ⟨#[108, 111, 119, 101, 114]⟩, .int .i64 p] w (InC w l_lower p) := by
  go_enter Try.func66, Try.ntmps66
  go_wp2_with (go_at_call 90; refine (between_any _ _ _ _).mono ?_; rintro e w' ⟨rfl, rfl⟩)
  all_goals (go_ret; refine ⟨_, rfl, ?_, rfl⟩; simp only [l_lower, mem_append, mem_evens, mem_cons, mem_nil, or_false]; simp_all <;> omega)
theorem inC_memB {w : World} {l : List (Int × Int)} {p : Int} {args : Array Value} (h : Calls Try.prog 66 args w (InC w l p)) : Calls Try.prog 66 args w fun e w' => e = .returned (.bool (memB l p)) ∧ w = w' :=
  h.mono fun e w' ⟨b, h1, h2, h3⟩ => ⟨by rw [h1, show b = memB l p from by rw [Bool.eq_iff_iff, memB_iff]; exact h2], h3⟩
set_option maxRecDepth 100000 in
set_option maxHeartbeats 4000000 in
theorem inC_alnum (p : Int) (w : World) : Calls Try.prog 66 #[.string ⟨#[97, 108, 110, 117, 109]⟩, .int .i64 p] w (InC w l_alnum p) := by
  have C1 := Lib.hid (inC_alpha p w)
  have C2 := Lib.hid (inC_digit p w)
  go_enter Try.func66, Try.ntmps66
  go_wp2_with fail
  refine C1.out.mono ?_
  rintro e w' ⟨b, rfl, hb, rfl⟩
  cases b
  · have HB := Lib.hid hb
    clear hb
    go_wp2_with fail
    refine C2.out.mono ?_
    rintro e w' ⟨b, rfl, hb2, rfl⟩
    have HB2 := Lib.hid hb2
    clear hb2
    go_wp2
    all_goals (go_ret; refine ⟨_, rfl, ?_, rfl⟩; have h1 := HB.out; have h2 := HB2.out; simp only [l_alnum, mem_append] at *; simp_all)
  · have HB := Lib.hid hb
    clear hb
    go_wp2
    go_ret
    refine ⟨_, rfl, ?_, rfl⟩
    have h1 := HB.out
    simp only [l_alnum, mem_append]
    simp_all
set_option maxRecDepth 100000 in
set_option maxHeartbeats 4000000 in
theorem inC_word (p : Int) (w : World) : Calls Try.prog 66 #[.string ⟨#[119, 111, 114, 100]⟩, .int .i64 p] w (InC w l_word p) := by
  have C1 := Lib.hid (inC_alnum p w)
  go_enter Try.func66, Try.ntmps66
  go_wp2_with fail
  refine C1.out.mono ?_
  rintro e w' ⟨b, rfl, hb, rfl⟩
  have HB := Lib.hid hb
  clear hb
  cases b
  · go_wp2
    all_goals (go_ret; refine ⟨_, rfl, ?_, rfl⟩; have h1 := HB.out; simp only [l_word, mem_append, mem_cons, mem_nil, or_false]; simp_all <;> omega)
  · go_wp2
    go_ret
    refine ⟨_, rfl, ?_, rfl⟩
    have h1 := HB.out
    simp only [l_word, mem_append]
    simp_all
set_option maxRecDepth 100000 in
set_option maxHeartbeats 4000000 in
theorem inC_graph (p : Int) (w : World) : Calls Try.prog 66 #[.string ⟨#[103, 114, 97, 112, 104]⟩, .int .i64 p] w (InC w l_graph p) := by
  have C1 := Lib.hid (inC_alnum p w)
  have C2 := Lib.hid (inC_punct p w)
  go_enter Try.func66, Try.ntmps66
  go_wp2_with fail
  refine C1.out.mono ?_
  rintro e w' ⟨b, rfl, hb, rfl⟩
  cases b
  · have HB := Lib.hid hb
    clear hb
    go_wp2_with fail
    refine C2.out.mono ?_
    rintro e w' ⟨b, rfl, hb2, rfl⟩
    have HB2 := Lib.hid hb2
    clear hb2
    go_wp2
    all_goals (go_ret; refine ⟨_, rfl, ?_, rfl⟩; have h1 := HB.out; have h2 := HB2.out; simp only [l_graph, mem_append] at *; simp_all)
  · have HB := Lib.hid hb
    clear hb
    go_wp2
    go_ret
    refine ⟨_, rfl, ?_, rfl⟩
    have h1 := HB.out
    simp only [l_graph, mem_append]
    simp_all
end Go.Proofs.Ytehlijnhhbdbhaa
