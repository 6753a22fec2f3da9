/-
  The program bytes of a point in sixteen bits, walked.
-/
import Derived.Test.YtlgpnofkfpeacaaEncB
namespace Go.Proofs.Ytlgpnofkfpeacaa
open Go.RowKit
set_option linter.unusedVariables false
theorem put_of (little : Bool) (u : Int) (w : World) (h0 : 0 ≤ u) (h1 : u ≤ 65535) (l : List Int) (hl : unitB (if little then 2 else 3) u = l) :
    Calls Try.prog 59 #[.agg #[.bool little], .int .i64 u] w (OwnBytes w l) := by
  rw [← hl]; exact put_any little u w h0 h1

theorem ofInt_i64 (a : Nat) (ha : a < 9223372036854775808) : (BitVec.ofInt 64 (a : Int)).toNat = a := by
  rw [BitVec.ofInt_natCast, BitVec.toNat_ofNat]; exact Nat.mod_eq_of_lt (by omega)
theorem i64_and_nat (a b : Nat) (ha : a < 9223372036854775808) (hb : b < 9223372036854775808) : bits .and .i64 (a : Int) (b : Int) = ((a &&& b : Nat) : Int) := by
  have hx : a &&& b < 2 ^ 63 := Nat.and_lt_two_pow _ (by omega)
  show IntKind.i64.wrap ((BitVec.ofInt 64 (a : Int) &&& BitVec.ofInt 64 (b : Int)).toNat : Int) = _
  rw [BitVec.toNat_and, ofInt_i64 a ha, ofInt_i64 b hb, IntKind.wrap_i64]
  omega
theorem and1023 (p : Int) (h0 : 0 ≤ p) (h1 : p ≤ 1048575) : bits .and .i64 p 1023 = p % 1024 := by
  obtain ⟨q, rfl⟩ := Int.eq_ofNat_of_zero_le h0
  exact (i64_and_nat q 1023 (by omega) (by omega)).trans (by rw [show (1023 : Nat) = 2 ^ 10 - 1 from rfl, Nat.and_two_pow_sub_one_eq_mod]; omega)
theorem le_of_succ {a b : Nat} (h : a + 1 ≤ b) : a ≤ b := by omega
theorem held1 {w w1 w2 : World} {g : Nat} {v : Value} (h1 : w1.cell? ⟨g, 0, none⟩ = some v) (h2 : g + 1 ≤ w1.heap.size) (h3 : Below g w w1) (hb : Below w1.heap.size w1 w2) :
    w2.cell? ⟨g, 0, none⟩ = some v ∧ g + 1 ≤ w2.heap.size ∧ Below g w w2 :=
  ⟨by rw [hb.cell (p := ⟨g, 0, none⟩) (show g < w1.heap.size by omega)]; exact h1, Nat.le_trans h2 hb.size, h3.trans (hb.mono (by omega))⟩
theorem held2 {w w1 w2 : World} {g : Nat} {v : Value} {row : Option Nat} (h1 : w1.cell? ⟨g, 0, none⟩ = some v) (h2 : g + 1 ≤ w1.heap.size) (h3 : Below g w w1) (hg : w1.grownBy w2 row) (hr : ∀ k, row = some k → g + 1 ≤ k) :
    w2.cell? ⟨g, 0, none⟩ = some v ∧ g + 1 ≤ w2.heap.size ∧ Below g w w2 :=
  ⟨hg.cell h1 (fun e => absurd (show g + 1 ≤ g from hr _ e.symm) (by omega)), Nat.le_trans h2 hg.size, h3.grown hg (by omega) (fun k hk => by have := hr k hk; omega)⟩
set_option maxHeartbeats 1000000 in
theorem bytes16b (little : Bool) (p : Int) (w : World) (h0 : 65536 ≤ p) (h1 : p ≤ 1114111) (l1 l2 : List Int) (e1 : unitB (if little then 2 else 3) (55296 + (p - 65536) / 1024) = l1) (e2 : unitB (if little then 2 else 3) (56320 + (p - 65536) % 1024) = l2) :
    Calls Try.prog 56 #[.agg #[.bool little], .int .i64 p] w (OwnBytes w (l1 ++ l2)) := by
  have K1 := Lib.hid (show l1.length = 2 by rw [← e1, unitB_len])
  have K2 := Lib.hid (show l2.length = 2 by rw [← e2, unitB_len])
  have E1 := Lib.hid e1
  have E2 := Lib.hid e2
  clear e1 e2
  have b0 : (0 : Int) ≤ (p - 65536) := by omega
  have b9 : (p - 65536) ≤ 1048575 := by omega
  have b1 : 0 ≤ 55296 + (p - 65536) / 1024 := by omega
  have b2 : 55296 + (p - 65536) / 1024 ≤ 65535 := by omega
  have b3 : 0 ≤ 56320 + (p - 65536) % 1024 := by omega
  have b4 : 56320 + (p - 65536) % 1024 ≤ 65535 := by omega
  have S0 := Lib.hid (show bits .and .i64 (p - 65536) 1023 = (p - 65536) % 1024 from and1023 _ (by omega) (by omega))
  have S1 := Lib.hid (show IntKind.i64.wrap (55296 + (p - 65536) / 1024) = 55296 + (p - 65536) / 1024 from IntWalk.i64_in _ (by omega))
  have S2 := Lib.hid (show IntKind.i64.wrap (56320 + (p - 65536) % 1024) = 56320 + (p - 65536) % 1024 from IntWalk.i64_in _ (by omega))
  go_enter Try.func56, Try.ntmps56
  go_wp2_with fail
  have s0 := S0.out
  have s1 := S1.out
  have s2 := S2.out
  go_region_held3 (fun w' => w'.cell? ⟨w.heap.size, 0, none⟩ = some (.bool little) ∧ w.heap.size + 1 ≤ w'.heap.size ∧ Below w.heap.size w w')
    (first
      | (exact ⟨by simp, by simp, by go_grown⟩)
      | (go_split_ands; exact held1 (by assumption) (by assumption) (by assumption) hb)
      | (go_split_ands; exact held1 (by assumption) (by assumption) (by assumption) hb2)
      | (go_split_ands; exact held2 (by assumption) (by assumption) (by assumption) hg3 (fun k hk => Nat.le_trans (by simp) (hown.lt k hk).1))
      | (go_split_ands; trace_state; fail))
    (first
      | (go_at_call 59; (with_reducible refine (put_of little _ _ b1 b2 l1 E1.out).mono ?_); rintro e w1 ⟨A, n, c, rfl, hown, hb⟩)
      | (go_at_call 59; (with_reducible refine (put_of little _ _ b3 b4 l2 E2.out).mono ?_); rintro e w2 ⟨A2, n2, c2, rfl, hown2, hb2⟩)
      | (refine step_app_bytes (.tmp 16) (.tmp 21) (own_mono (own_below hown hb2 (Nat.le_refl _)) (base' := w.heap.size) (by simp)) (Rds.of_own hown2) (by rw [own_byts_len hown, own_byts_len hown2, K1.out, K2.out]; exact Nat.le_of_ble_eq_true rfl) (Nat.le_trans (by simp) (Nat.le_trans hb.size hb2.size)) rfl rfl rfl rfl ?_; intro v3 w3 hown3 hg3 hat3))
  clear s0 s1 s2
  go_wp2
  go_ret
  refine ownBytes_of rfl hown3 ?_
  have B2 : Below w.heap.size w w2 := Below.trans (by go_grown) ((hb.mono (B' := w.heap.size) (by simp)).trans (hb2.mono (Nat.le_trans (by simp) hb.size)))
  exact B2.grown hg3 (Nat.le_trans (by simp) (Nat.le_trans hb.size hb2.size)) (fun k hk => Nat.le_trans (by simp) (hown.lt k hk).1)
theorem bytes16 (little : Bool) (p : Int) (w : World) (h0 : 0 ≤ p) (h1 : p ≤ 1114111) :
    Calls Try.prog 56 #[.agg #[.bool little], .int .i64 p] w (OwnBytes w (bytesOf (if little then 2 else 3) p)) := by
  by_cases a : p < 65536
  · have hu : bytesOf (if little then 2 else 3) p = unitB (if little then 2 else 3) p := by cases little <;> simp [bytesOf, a]
    rw [hu]
    obtain ⟨l, hl⟩ : ∃ l, unitB (if little then 2 else 3) p = l := ⟨_, rfl⟩
    rw [hl]
    have HL := Lib.hid hl
    clear hu hl
    go_enter Try.func56, Try.ntmps56
    go_wp2_with (go_at_call 59; refine (put_of little p _ h0 (by omega) l HL.out).mono ?_; rintro e w1 ⟨A, n, c, rfl, hown, hb⟩)
    go_ret
    exact ⟨A, n, c, rfl, own_mono hown (by simp), ((Below.refl _ _).alloc (Nat.le_refl _) _).trans (hb.mono (by simp))⟩
  · have hu : bytesOf (if little then 2 else 3) p = unitB (if little then 2 else 3) (55296 + (p - 65536) / 1024) ++ unitB (if little then 2 else 3) (56320 + (p - 65536) % 1024) := by
      cases little <;> simp [bytesOf, a]
    rw [hu]
    exact bytes16b little p w (by omega) h1 _ _ rfl rfl
end Go.Proofs.Ytlgpnofkfpeacaa
