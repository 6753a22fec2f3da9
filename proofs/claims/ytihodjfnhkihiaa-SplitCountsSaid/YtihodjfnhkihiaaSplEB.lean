/- rises of the law: walked. No condition but on lengths. -/
import Derived.Test.YtihodjfnhkihiaaSplX
import Derived.Test.YtihodjfnhkihiaaSpQ
import Derived.BigQuiet
namespace Go.Proofs.Ytihodjfnhkihiaa
open Go.RowKit
set_option linter.unusedVariables false
theorem drew_more {w w1 : World} (h : ∃ q, w1 = w.drewN q) (n : Nat) : ∃ q, w1.drewN n = w.drewN q := by
  obtain ⟨q, rfl⟩ := h
  exact ⟨q + n, by simp [World.drewN, Nat.add_assoc]⟩
theorem lexB_step {a b : List (Int × Int)} {k : Nat} (ha : k < a.length) (hb : k < b.length) (e : a[k].1 = b[k].1) : lexB (keyR (a.drop k)) (keyR (b.drop k)) = lexB (keyR (a.drop (k + 1))) (keyR (b.drop (k + 1))) := by
  rw [List.drop_eq_getElem_cons ha, List.drop_eq_getElem_cons hb]
  simp only [keyR, List.map_cons, lexB]
  rw [if_neg (by omega)]
theorem lexB_ne {a b : List (Int × Int)} {k : Nat} (ha : k < a.length) (hb : k < b.length) (e : a[k].1 ≠ b[k].1) : lexB (keyR (a.drop k)) (keyR (b.drop k)) = decide (a[k].1 < b[k].1) := by
  rw [List.drop_eq_getElem_cons ha, List.drop_eq_getElem_cons hb]
  simp only [keyR, List.map_cons, lexB]
  rw [if_pos e]
theorem lexB_end {a b : List (Int × Int)} {k : Nat} (h : ¬ (k < a.length ∧ k < b.length)) (ha : k ≤ a.length) (hb : k ≤ b.length) : lexB (keyR (a.drop k)) (keyR (b.drop k)) = decide (a.length < b.length) := by
  by_cases h1 : k < a.length
  · have eb : b.drop k = [] := List.drop_eq_nil_of_le (by omega)
    rw [eb, List.drop_eq_getElem_cons h1, decide_eq_false (by omega)]; rfl
  · have ea : a.drop k = [] := List.drop_eq_nil_of_le (by omega)
    rw [ea]
    by_cases h2 : k < b.length
    · rw [List.drop_eq_getElem_cons h2, decide_eq_true (by omega)]; rfl
    · have eb : b.drop k = [] := List.drop_eq_nil_of_le (by omega)
      rw [eb, decide_eq_false (by omega)]; rfl
set_option maxRecDepth 100000 in
set_option maxHeartbeats 1000000 in
theorem rises9 (a b : List (Int × Int)) (A B : Option Addr) (n c m d : Nat) (w : World) (hn : n ≤ 1000000) (hm : m ≤ 1000000) (ha : Rds w w.heap.size 2 A n (rngs a)) (hb : Rds w w.heap.size 2 B m (rngs b)) :
    Calls Try.prog 9 #[.slice A n c, .slice B m d] w fun e w' => e = .returned (.bool (lexB (keyR a) (keyR b))) ∧ ∃ q, w' = w.drewN q := by
  have HLA := Lib.hid ha.rngs_len
  have HLB := Lib.hid hb.rngs_len
  have HA := Lib.hid ha
  have HB := Lib.hid hb
  clear ha hb
  go_enter Try.func9, Try.ntmps9
  go_wp2_with fail
  go_loopw [5] (fun i wr => ∃ k : Nat, i = .int .i64 (k : Int) ∧ k ≤ n ∧ k ≤ m ∧ Hid (lexB (keyR a) (keyR b) = lexB (keyR (a.drop k)) (keyR (b.drop k))) ∧ ∃ q, wr = w.drewN q) (fun i _ => n - (intOf i).toNat)
  case atStart => exact ⟨0, by go_num, by omega, by omega, Lib.hid rfl, 0, rfl⟩
  case round =>
    obtain ⟨k, rfl, hkn, hkm, HE, q, rfl⟩ := hrel
    by_cases hlt : k < n
    · have hlt' : (k : Int) < (n : Int) := by omega
      by_cases hmk : k < m
      · have hmk' : (k : Int) < (m : Int) := by omega
        obtain ⟨b1, o1, hl1, hA, hb1, hc1, hd1⟩ := HA.out.rng_at hlt
        obtain ⟨b2, o2, hl2, hA2, hb2, hc2, hd2⟩ := HB.out.rng_at hmk
        have HST := Lib.hid (fun e => (HE.out.trans (lexB_step hl1 hl2 e)))
        have HNE := Lib.hid (fun e => (HE.out.trans (lexB_ne hl1 hl2 e)))
        obtain ⟨p, hp⟩ : ∃ p, p = a[k] := ⟨_, rfl⟩
        obtain ⟨q', hq⟩ : ∃ q', q' = b[k] := ⟨_, rfl⟩
        rw [← hp] at hc1 hd1 HST HNE
        rw [← hq] at hc2 hd2 HST HNE
        clear hp hq
        obtain ⟨x1, x2⟩ := p
        obtain ⟨y1, y2⟩ := q'
        simp only at hc1 hd1 hc2 hd2 HST HNE
        subst hA
        subst hA2
        have h0k : (0 : Int) ≤ (k : Int) := by omega
        go_wp2_with fail
        go_quiet (fail)
        by_cases hz : x1 = y1
        · have HR := Lib.hid (HST.out hz)
          have hzb : (x1 != y1) = false := by simp [hz]
          clear hz
          go_wp2_with fail
          go_roundw
          case rel => exact ⟨k + 1, by go_num, by omega, by omega, HR, _, rfl⟩
          case measure => simp only [intOf]; omega
        · have HR := Lib.hid (HNE.out hz)
          have hzb : (x1 != y1) = true := by simp [hz]
          clear hz
          go_wp2_with fail
          go_quiet (fail)
          go_wp2
          go_ret
          exact ⟨by rw [HR.out]; rfl, by first | exact drew_more ⟨_, rfl⟩ _ | exact drew_more (drew_more ⟨_, rfl⟩ _) _⟩
      · have hmk' : ¬ (k : Int) < (m : Int) := by omega
        have HR := Lib.hid (HE.out.trans (lexB_end (by have := HLB.out; omega) (by have := HLA.out; omega) (by have := HLB.out; omega)))
        have HD := Lib.hid (show decide (a.length < b.length) = decide (n < m) by rw [HLA.out, HLB.out])
        go_wp2
        go_ret
        exact ⟨by rw [HR.out, HD.out]; rfl, q, rfl⟩
    · have hlt' : ¬ (k : Int) < (n : Int) := by omega
      have HR := Lib.hid (HE.out.trans (lexB_end (by have := HLA.out; omega) (by have := HLA.out; omega) (by have := HLB.out; omega)))
      have HD := Lib.hid (show decide (a.length < b.length) = decide (n < m) by rw [HLA.out, HLB.out])
      go_wp2
      go_ret
      exact ⟨by rw [HR.out, HD.out]; rfl, q, rfl⟩
end Go.Proofs.Ytihodjfnhkihiaa
