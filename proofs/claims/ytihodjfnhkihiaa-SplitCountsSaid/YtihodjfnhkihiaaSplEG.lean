/- SplitCounts: walked. No condition. -/
import Derived.Test.YtihodjfnhkihiaaSplZ
import Derived.Test.YtihodjfnhkihiaaSplE
import Derived.Test.YtihodjfnhkihiaaSplEB
import Derived.Test.YtihodjfnhkihiaaSetU
import Derived.Test.YtihodjfnhkihiaaSetZ
import Derived.BigQuiet
namespace Go.Proofs.Ytihodjfnhkihiaa
open Go.RowKit
set_option linter.unusedVariables false
theorem prodR_snoc (r : List (Int × Int)) {k : Nat} (h : k < r.length) : prodR (r.take (k + 1)) = prodR (r.take k) * (r[k].2 - r[k].1 + 1) := by
  rw [List.take_succ_eq_append_getElem h, prodR_append]
  simp [prodR]
theorem prodR_le : ∀ (r : List (Int × Int)), (∀ x ∈ r, 0 ≤ x.1 ∧ x.1 ≤ x.2 ∧ x.2 ≤ 255) → 1 ≤ prodR r ∧ prodR r ≤ 256 ^ r.length
  | [], _ => by simp [prodR]
  | x :: r, h => by
    obtain ⟨h1, h2⟩ := prodR_le r fun y hy => h y (by simp [hy])
    obtain ⟨a, b, c⟩ := h x (by simp)
    rw [prodR, List.length_cons, Int.pow_succ]
    constructor
    · have := Int.mul_le_mul (show (1 : Int) ≤ x.2 - x.1 + 1 by omega) h1 (by omega) (by omega)
      omega
    · rw [Int.mul_comm]
      exact Int.mul_le_mul h2 (by omega) (by omega) (by omega)
theorem prodR_le4 (r : List (Int × Int)) (h : ∀ x ∈ r, 0 ≤ x.1 ∧ x.1 ≤ x.2 ∧ x.2 ≤ 255) (hl : r.length ≤ 4) (k : Nat) : 1 ≤ prodR (r.take k) ∧ prodR (r.take k) ≤ 4294967296 := by
  obtain ⟨h1, h2⟩ := prodR_le (r.take k) fun x hx => h x (List.mem_of_mem_take hx)
  have hk : (r.take k).length ≤ 4 := by rw [List.length_take]; omega
  refine ⟨h1, Int.le_trans h2 ?_⟩
  have hc : (r.take k).length = 0 ∨ (r.take k).length = 1 ∨ (r.take k).length = 2 ∨ (r.take k).length = 3 ∨ (r.take k).length = 4 := by omega
  rcases hc with e | e | e | e | e <;> rw [e] <;> decide
theorem sizeR_snoc (ls : List (List (Int × Int))) {k : Nat} (h : k < ls.length) : sizeR (ls.take (k + 1)) = sizeR (ls.take k) + prodR ls[k] := by
  rw [List.take_succ_eq_append_getElem h, sizeR_append]
  simp [sizeR]
theorem sizeR_take_le {ls : List (List (Int × Int))} (h : ∀ r ∈ ls, ∀ x ∈ r, x.1 ≤ x.2) (k : Nat) : 0 ≤ sizeR (ls.take k) ∧ sizeR (ls.take k) ≤ sizeR ls := by
  have e : sizeR ls = sizeR (ls.take k) + sizeR (ls.drop k) := by rw [← sizeR_append, List.take_append_drop]
  have h1 := len_le_size (ls := ls.take k) fun r hr => h r (List.mem_of_mem_take hr)
  have h2 := len_le_size (ls := ls.drop k) fun r hr => h r (List.mem_of_mem_drop hr)
  omega
def mayL (enc : Int) : List (Int × Int) := if enc = 4 then [(0, 255)] else [(0, 55295), (57344, 1114111)]
theorem mayL_chk (enc : Int) : chk (mayL enc) = 0 := by unfold mayL; split <;> decide
theorem mayL_mem (enc p : Int) : mem (mayL enc) p ↔ ScalE enc p := by
  unfold mayL ScalE
  split
  · simp [mem]
  · simp [mem]; omega
/-- as many as the roads say -/
theorem FinR.many {enc : Int} {a b : List (Int × Int)} {ls : List (List (Int × Int))} (h : FinR enc a ls) (hb : IsSet b fun p => mem a p ∧ mem (mayL enc) p) : sizeR ls = countL b := by
  rw [h.1.size, countL_cnt hb.1]
  refine congrArg (fun k : Nat => (k : Int)) (cntB_congr _ fun p _ _ => ?_)
  rw [Bool.eq_iff_iff, Bool.and_eq_true, memB_iff, scalB_iff, memB_iff, hb.2 p]
  simp only [mayL_mem]
theorem FinR.all {enc : Int} {a : List (Int × Int)} {ls : List (List (Int × Int))} (h : FinR enc a ls) (k : Nat) : 0 ≤ sizeR (ls.take k) ∧ sizeR (ls.take k) ≤ 1114112 := by
  have h1 := sizeR_take_le (ls := ls) (fun r hr x hx => ((h.1.shape r hr).2 x hx).2.1) k
  have h2 := h.1.size
  have h3 := cntB_le (fun p => memB a p && scalB enc p) 1114112
  omega
theorem mul_rng {m d : Int} (h1 : 1 ≤ m) (h2 : m ≤ 4294967296) (h3 : 1 ≤ d) (h4 : d ≤ 256) : -9223372036854775808 ≤ m * d ∧ m * d ≤ 9223372036854775807 := by
  have a := Int.mul_le_mul h2 h4 (by omega) (by omega)
  have b := Int.mul_nonneg (show 0 ≤ m by omega) (show 0 ≤ d by omega)
  omega
set_option maxRecDepth 100000 in
set_option maxHeartbeats 4000000 in
theorem lawCounts2 (enc : Int) (a : List (Int × Int)) (A : Option Addr) (n c : Nat) (w : World) (hnc : n ≤ c) (hc : c ≤ maxLen) (ha : Rds w w.heap.size 2 A n (rngs a)) :
    Calls Try.prog 4 #[.int .i64 enc, .slice A n c] w fun e w' => e = .returned (.bool true) ∧ Below w.heap.size w w' := by
  have HA := Lib.hid ha
  clear ha
  go_enter Try.func4, Try.ntmps4
  go_wp2_with fail
  refine (splitBegun49 w).mono ?_
  rintro e w1 ⟨rfl, hb1⟩
  have HB1 := Lib.hid hb1
  clear hb1
  go_wp2_with fail
  refine (setBegun29 w1).mono ?_
  rintro e w2 ⟨rfl, hb2⟩
  have HB2 := Lib.hid (HB1.out.trans (hb2.mono HB1.out.size))
  have HA2 := Lib.hid (HA.out.next HB2.out)
  clear hb2 HB1
  go_wp2_with fail
  refine (roads5 enc a A n c w2 hnc hc HA2.out).mono ?_
  rintro e w3 ⟨ls, A2, n2, c2, vs, rfl, h1, h2, h3, h4, h5, h6, h7⟩
  have HB3 := Lib.hid (HB2.out.trans (h5.mono HB2.out.size))
  have HA3 := Lib.hid (HA2.out.next h5)
  have HV := Lib.hid (Rds.of_own h3.out)
  have HSL := Lib.hid h4.out.sls
  have HN := Lib.hid (own_count h3.out h4.out)
  clear h1 h2 h3 h4 h5 h7 HA HA2 HB2
  by_cases hE : roadE enc a = 0
  · have HF := Lib.hid (h6.out hE)
    have hed : 1 ≤ enc ∧ enc ≤ 4 ∧ chk a = 0 := by
      unfold roadE at hE
      by_cases h : 1 ≤ enc ∧ enc ≤ 4
      · rw [if_pos h] at hE; exact ⟨h.1, h.2, hE⟩
      · rw [if_neg h] at hE; cases hE
    have HCA := Lib.hid hed.2.2
    rw [hE]
    clear hE hed h6
    have hn2 : n2 ≤ 1114112 := by have := HN.out; have := HF.out.1.many; omega
    go_wp2_with fail
    go_loopw [7, 8] (fun s i wr => ∃ k q : Nat, i = .int .i64 (k : Int) ∧ k ≤ n2 ∧ s = .int .i64 (sizeR (ls.take k)) ∧ wr = w3.drewN q) (fun _ i _ => (n2 - intOf i).toNat)
    case atStart => exact ⟨0, 0, by go_num, by omega, by simp [sizeR], rfl⟩
    case round =>
      obtain ⟨k, q, rfl, hkn, rfl, rfl⟩ := hrel
      have hall := HF.out.all k
      obtain ⟨hl0, hl1⟩ := hall
      by_cases hlt : k < n2
      · obtain ⟨b1, off1, hv1, hA, hb1, hc1⟩ := HV.out.at1 hlt
        obtain ⟨hl2, A3, n3, c3, hvk, hnc3, hc3m, hr3⟩ := HSL.out.at2 hv1
        rw [hvk] at hc1
        have HSH := Lib.hid (HF.out.1.shape _ (List.getElem_mem hl2))
        have hn3 : n3 ≤ 4 := by
          have := HSH.out.1
          have := hr3.rngs_len
          omega
        have HR3 := Lib.hid hr3
        have HL3 := Lib.hid hr3.rngs_len
        have HPL := Lib.hid (fun j => prodR_le4 ls[k] HSH.out.2 HSH.out.1.2 j)
        have HNX := Lib.hid (sizeR_snoc ls hl2)
        have hall2 := HF.out.all (k + 1)
        rw [HNX.out] at hall2
        have hk' : (k : Int) < (n2 : Int) := by omega
        have hk0 : (0 : Int) ≤ (k : Int) := by omega
        obtain ⟨S, hS⟩ : ∃ S, S = sizeR (ls.take k) := ⟨_, rfl⟩
        rw [← hS] at hl0 hl1 HNX hall2 ⊢
        have HS := Lib.hid hS
        clear hS
        obtain ⟨_, hs2⟩ := hall2
        have HS2 := Lib.hid hs2
        subst hA
        clear hvk hr3 hs2
        go_wp2_with fail
        go_loopw [9, 10] (fun m i wr => ∃ j q : Nat, i = .int .i64 (j : Int) ∧ j ≤ n3 ∧ m = .int .i64 (prodR (ls[k].take j)) ∧ wr = w3.drewN q) (fun _ i _ => (n3 - intOf i).toNat)
        case atStart => exact ⟨0, q, by go_num, by omega, by simp [prodR], rfl⟩
        case round =>
          obtain ⟨j, q, rfl, hjn, rfl, rfl⟩ := hrel
          by_cases hjl : j < n3
          · obtain ⟨b4, off4, hl4, hA4, hb4, hc4, hd4⟩ := HR3.out.rng_at hjl
            have hxy := HSH.out.2 _ (List.getElem_mem hl4)
            have HPN := Lib.hid (prodR_snoc ls[k] hl4)
            have hpj := HPL.out j
            obtain ⟨r, hr⟩ : ∃ r, r = ls[k][j] := ⟨_, rfl⟩
            rw [← hr] at hc4 hd4 hxy HPN
            clear hr
            obtain ⟨x, y⟩ := r
            simp only at hc4 hd4 hxy HPN
            obtain ⟨M, hM⟩ : ∃ M, M = prodR (ls[k].take j) := ⟨_, rfl⟩
            rw [← hM] at hpj HPN ⊢
            clear hM
            obtain ⟨t0, t1, t2⟩ := hxy
            obtain ⟨p0, p1⟩ := hpj
            have j0 : (0 : Int) ≤ (j : Int) := by omega
            have j2 : (j : Int) < (n3 : Int) := by omega
            have HMR := Lib.hid (mul_rng p0 p1 (d := y - x + 1) (by omega) (by omega))
            subst hA4
            go_wp2_with fail
            have e1 : IntKind.i64.wrap (y - x) = y - x := IntWalk.i64_in _ (by omega)
            have e2 : IntKind.i64.wrap (y - x + 1) = y - x + 1 := IntWalk.i64_in _ (by omega)
            have e3 : IntKind.i64.wrap (M * (y - x + 1)) = M * (y - x + 1) := IntWalk.i64_in _ HMR.out
            go_quiet (fail)
            clear e1 e2 e3
            go_wp2_with fail
            go_roundw
            case rel => exact ⟨j + 1, _, by go_num, by omega, by rw [HPN.out], rfl⟩
            case measure => simp only [intOf]; omega
          · have j2 : ¬ (j : Int) < (n3 : Int) := by omega
            have hpj := HPL.out j
            obtain ⟨p0, p1⟩ := hpj
            have HE := Lib.hid (show prodR (ls[k].take j) = prodR ls[k] by rw [List.take_of_length_le (by have := HL3.out; omega)])
            go_wp2_with fail
            go_roundw
            case rel => exact ⟨k + 1, _, by go_num, by omega, by rw [HNX.out, ← HE.out], rfl⟩
            case measure => simp only [intOf]; omega
      · have hk' : ¬ (k : Int) < (n2 : Int) := by omega
        have HSZ := Lib.hid (show sizeR (ls.take k) = sizeR ls by rw [List.take_of_length_le (by have := HN.out; omega)])
        obtain ⟨W4, hW4⟩ : ∃ W4, W4 = w3.drewN q := ⟨_, rfl⟩
        have HB4 := Lib.hid (below_drewN HB3.out q)
        have HA4 := Lib.hid (HA3.out.drewN q)
        have hws : W4.heap.size = w3.heap.size := by rw [hW4]; rfl
        rw [← hW4] at HB4 HA4
        rw [← hws] at HA4
        obtain ⟨S, hS⟩ : ∃ S, S = sizeR (ls.take k) := ⟨_, rfl⟩
        rw [← hS] at hl0 hl1 HSZ ⊢
        have HW4 := Lib.hid hW4
        clear hW4 hws hS HB3 HA3
        go_upto_if 70 with (fail)
        rw [← HW4.out]
        go_cut [11] from 70 to 72 (fun v wd => ∃ B m, v = .slice B m m ∧ m ≤ 2 ∧ Hid (Below W4.heap.size W4 wd) ∧ Hid (Rds wd wd.heap.size 2 B m (rngs (mayL enc))))
        case first =>
          have z1 : ∀ o, (W4.alloc o).heap.size = W4.heap.size + 1 := fun o => by simp
          have z2 : ∀ o p, ((W4.alloc o).alloc p).heap.size = W4.heap.size + 1 + 1 := fun o p => by simp
          have hws4 : w3.heap.size = W4.heap.size := by rw [HW4.out]; rfl
          by_cases h4 : enc = 4
          · subst h4
            have HM := Lib.hid (show Rds ((W4.alloc (.cells #[.int .i64 0, .int .i64 55295, .int .i64 57344, .int .i64 1114111] 31)).alloc (.cells #[.int .i64 0, .int .i64 255] 31)) ((W4.alloc (.cells #[.int .i64 0, .int .i64 55295, .int .i64 57344, .int .i64 1114111] 31)).alloc (.cells #[.int .i64 0, .int .i64 255] 31)).heap.size 2 (some ⟨W4.heap.size + 1, 0, none⟩) 1 (rngs (mayL 4)) from by
              have h := Rds.new (W4.alloc (.cells #[.int .i64 0, .int .i64 55295, .int .i64 57344, .int .i64 1114111] 31)) 2 1 #[.int .i64 0, .int .i64 255] 31 (rngs [(0, 255)]) rfl rfl
              rw [z1] at h
              rw [z2]
              exact h)
            have HBM := Lib.hid (show Below W4.heap.size W4 ((W4.alloc (.cells #[.int .i64 0, .int .i64 55295, .int .i64 57344, .int .i64 1114111] 31)).alloc (.cells #[.int .i64 0, .int .i64 255] 31)) by go_grown)
            clear z1 z2 hws4
            go_wp2_with fail
            go_meet
            exact ⟨_, 1, rfl, by omega, HBM, HM⟩
          · have h4b : (enc == 4) = false := by simpa using h4
            have HM := Lib.hid (show Rds (W4.alloc (.cells #[.int .i64 0, .int .i64 55295, .int .i64 57344, .int .i64 1114111] 31)) (W4.alloc (.cells #[.int .i64 0, .int .i64 55295, .int .i64 57344, .int .i64 1114111] 31)).heap.size 2 (some ⟨w3.heap.size, 0, none⟩) 2 (rngs (mayL enc)) from by
              have h := Rds.new W4 2 2 #[.int .i64 0, .int .i64 55295, .int .i64 57344, .int .i64 1114111] 31 (rngs [(0, 55295), (57344, 1114111)]) rfl rfl
              have e : mayL enc = [(0, 55295), (57344, 1114111)] := by unfold mayL; rw [if_neg h4]
              rw [z1, hws4, e]
              exact h)
            have HBM := Lib.hid (show Below W4.heap.size W4 (W4.alloc (.cells #[.int .i64 0, .int .i64 55295, .int .i64 57344, .int .i64 1114111] 31)) by go_grown)
            clear z1 z2 hws4 h4
            go_wp2_with fail
            go_meet
            exact ⟨_, 2, rfl, by omega, HBM, HM⟩
        case rest =>
          obtain ⟨B, m, rfl, hm2, hbm, HM⟩ := hcut
          have HB5 := Lib.hid (HB4.out.trans (hbm.out.mono HB4.out.size))
          have HA5 := Lib.hid (HA4.out.next hbm.out)
          have hmx : m ≤ maxLen := by unfold maxLen; omega
          have CM := Lib.hid (meet35 a (mayL enc) A B n c m m wc hnc hc (Nat.le_refl _) hmx HA5.out HM.out)
          have HCK := Lib.hid (show chk2 a (mayL enc) = 0 by unfold chk2; rw [if_pos HCA.out, mayL_chk])
          rw [HCK.out] at CM
          clear hmx hbm HA4 HB4
          go_wp2_with fail
          refine CM.out.mono ?_
          rintro e w6 ⟨out0, g1, g2⟩
          rw [if_pos rfl] at g2
          obtain ⟨hs0, _⟩ := g1 rfl
          by_cases h400 : 400 < out0.length
          · rw [if_pos h400] at g2
            obtain ⟨out, A6, n6, c6, rfl, k1, k2, k3, k4⟩ := g2
            have HB6 := Lib.hid (HB5.out.trans (k4.mono HB5.out.size))
            clear k1 k2 k3 k4 hs0
            go_wp2
            go_ret
            exact ⟨rfl, HB6.out⟩
          · rw [if_neg h400] at g2
            obtain ⟨out, A6, n6, c6, rfl, k1, k2, k3, k4⟩ := g2
            have HB6 := Lib.hid (HB5.out.trans (k4.mono HB5.out.size))
            obtain ⟨hso, _⟩ := k1 rfl
            have heq : out = out0 := hso.eq hs0 fun p => Iff.rfl
            have HCO := Lib.hid (show chk out = 0 from (chk_ok out).2 ⟨by rw [heq]; omega, hso.1⟩)
            have HSO := Lib.hid (show cntA out = S by unfold cntA; rw [if_pos HCO.out, HSZ.out]; exact (HF.out.many hso).symm)
            obtain ⟨A7, c7, hv7, q1, q2⟩ := own_slice k3
            injection hv7 with e1 e2 e3
            have CC := Lib.hid (count43 out A6 n6 c6 w6 (by omega) (by omega) (Rds.of_own k3))
            rw [HSO.out, HCO.out] at CC
            clear k1 k2 k3 k4 hs0 hso heq q1 q2 e1 e2 e3
            go_wp2_with fail
            refine CC.out.mono ?_
            rintro e w7 ⟨rfl, hb7⟩
            have HB7 := Lib.hid (HB6.out.trans (hb7.mono HB6.out.size))
            clear hb7
            go_wp2
            go_ret
            exact ⟨rfl, HB7.out⟩
  · have hE2 : (roadE enc a != 0) = true := by simpa using hE
    obtain ⟨E, hEE⟩ : ∃ E, E = roadE enc a := ⟨_, rfl⟩
    rw [← hEE] at hE2 ⊢
    clear hE hEE h6
    go_wp2
    go_ret
    exact ⟨rfl, HB3.out⟩
end Go.Proofs.Ytihodjfnhkihiaa
