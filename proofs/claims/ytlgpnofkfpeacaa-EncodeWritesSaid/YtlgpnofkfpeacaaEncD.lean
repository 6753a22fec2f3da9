/-
  Which coder an encoding has, and what is a scalar, walked.
-/
import Derived.Test.YtlgpnofkfpeacaaEncC
namespace Go.Proofs.Ytlgpnofkfpeacaa
open Go.RowKit
set_option linter.unusedVariables false
def strOf (l : List Int) : ByteArray := (l.foldl (fun r n => r.push (UInt8.ofNat n.toNat)) ByteArray.empty)
theorem run_str {w : World} {B n c : Nat} {A : Option Addr} {l : List Int} (h : Rds w B 1 A n (byts l)) :
    (convert 51 9 (.slice A n c)).run Try.prog w = .ok (.string (strOf l)) w := by
  rw [run_convert_bytes_string w 51 9 5 A n c Try.underlying51 Try.underlying5 Try.underlying9]
  have hl : l.length = n := by have := h.1; rw [byts_length] at this; omega
  rcases Nat.eq_zero_or_pos n with h0 | h0
  · subst h0
    obtain rfl : l = [] := List.eq_nil_of_length_eq_zero hl
    cases A with
    | none => simp [Conv.bytesToString, strOf]
    | some a => exact run_bytesToString w a 0 c [] (by simpa using run_loadCells_list (P := Try.prog) w a [] (by simp))
  · obtain ⟨b, off, rfl, _, hc⟩ := h.2 h0
    refine run_bytesToString w _ n c l ?_
    have := run_loadCells_list (P := Try.prog) w ⟨b, off, none⟩ (byts l) (fun j v hj => by
      have := hc j v hj
      by_cases hj0 : j = 0
      · subst hj0; simpa [Addr.add] using this
      · simpa [Addr.add, hj0] using this)
    rw [byts_length, hl] at this
    exact this
def scalarB (enc p : Int) : Bool := if enc = 4 then decide (0 ≤ p) && decide (p < 256) else decide (0 ≤ p) && decide (p ≤ 1114111) && (decide (p < 55296) || decide (57343 < p))
set_option maxHeartbeats 400000 in
theorem scalar_any (enc p : Int) (w : World) : Calls Try.prog 26 #[.int .i64 enc, .int .i64 p] w fun e w' => e = .returned (.bool (scalarB enc p)) ∧ w = w' := by
  by_cases h : enc = 4
  · subst h
    have hs : scalarB 4 p = (decide (0 ≤ p) && decide (p < 256)) := by simp [scalarB]
    rw [hs]
    clear hs
    go_enter Try.func26, Try.ntmps26
    go_wp2
    all_goals (go_ret; refine ⟨ret_bool ?_, rfl⟩; simp_all; try omega)
  · have hs : scalarB enc p = (decide (0 ≤ p) && decide (p ≤ 1114111) && (decide (p < 55296) || decide (57343 < p))) := by simp [scalarB, h]
    rw [hs]
    have h' : (enc == 4) = false := by simpa using h
    clear hs h
    go_enter Try.func26, Try.ntmps26
    go_wp2
    all_goals (go_ret; refine ⟨ret_bool ?_, rfl⟩; simp_all; try omega)
def coderOf (enc : Int) : Value := if enc = 1 then .iface 59 (.agg #[]) else if enc = 2 then .iface 61 (.agg #[.bool true]) else if enc = 3 then .iface 61 (.agg #[.bool false]) else if enc = 4 then .iface 62 (.agg #[]) else .nilIface
def encB (enc : Int) : Bool := decide (1 ≤ enc) && decide (enc ≤ 4)
set_option maxHeartbeats 400000 in
theorem of_no (enc : Int) (w : World) (h : encB enc = false) : Calls Try.prog 25 #[.int .i64 enc] w fun e w' => e = .returned .nilIface ∧ w = w' := by
  have h' : ¬ (1 ≤ enc ∧ enc ≤ 4) := by simpa [encB] using h
  have h1 : (enc == 1) = false := by rw [beq_eq_false_iff_ne]; omega
  have h2 : (enc == 2) = false := by rw [beq_eq_false_iff_ne]; omega
  have h3 : (enc == 3) = false := by rw [beq_eq_false_iff_ne]; omega
  have h4 : (enc == 4) = false := by rw [beq_eq_false_iff_ne]; omega
  clear h h'
  go_enter Try.func25, Try.ntmps25
  go_wp2
  go_ret
  exact ⟨rfl, rfl⟩
set_option maxHeartbeats 400000 in
theorem of_1 (w : World) : Calls Try.prog 25 #[.int .i64 1] w fun e w' => e = .returned (.iface 59 (.agg #[])) ∧ w = w' := by
  go_enter Try.func25, Try.ntmps25
  go_wp2
  go_ret
  exact ⟨rfl, rfl⟩
set_option maxHeartbeats 400000 in
theorem of_2 (w : World) : Calls Try.prog 25 #[.int .i64 2] w fun e w' => e = .returned (.iface 61 (.agg #[.bool true])) ∧ w = w' := by
  go_enter Try.func25, Try.ntmps25
  go_wp2
  go_ret
  exact ⟨rfl, rfl⟩
set_option maxHeartbeats 400000 in
theorem of_3 (w : World) : Calls Try.prog 25 #[.int .i64 3] w fun e w' => e = .returned (.iface 61 (.agg #[.bool false])) ∧ w = w' := by
  go_enter Try.func25, Try.ntmps25
  go_wp2
  go_ret
  exact ⟨rfl, rfl⟩
set_option maxHeartbeats 400000 in
theorem of_4 (w : World) : Calls Try.prog 25 #[.int .i64 4] w fun e w' => e = .returned (.iface 62 (.agg #[])) ∧ w = w' := by
  go_enter Try.func25, Try.ntmps25
  go_wp2
  go_ret
  exact ⟨rfl, rfl⟩
end Go.Proofs.Ytlgpnofkfpeacaa
