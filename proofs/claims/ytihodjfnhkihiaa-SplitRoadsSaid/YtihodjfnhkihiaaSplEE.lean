/- Standing of the reference, the other encodings: walked. -/
import Derived.Test.YtihodjfnhkihiaaSplED
namespace Go.Proofs.Ytihodjfnhkihiaa
open Go.RowKit
set_option linter.unusedVariables false
theorem SEnv.bq {w : World} {g : Nat} {enc : Int} {s : ByteArray} (h : SEnv w g enc s) (i : Nat) (hi : i ≤ 10) (k : Int) (hk : k = (i : Int)) (q : Nat) : Calls Try.prog 29 #[.int .i64 k, .pointer (some ⟨g + 1 + 1, 0, none⟩), .pointer (some ⟨g + 1, 0, none⟩)] (w.drewN q) fun e w' => e = .returned (.int .i64 (bA s i)) ∧ w.drewN q = w' := by
  subst hk
  exact (h.drewN q).b i hi
set_option maxRecDepth 100000 in
set_option maxHeartbeats 2000000 in
theorem clo30 (enc : Int) (s : ByteArray) (i : Int) (j : Nat) (hi : (i = 0 ∧ j = 0) ∨ (i = 2 ∧ j = 2)) (g : Nat) (w : World) (he : SEnv w g enc s) :
    Calls Try.prog 30 #[.int .i64 i, .pointer (some ⟨g, 0, none⟩), .pointer (some ⟨g + 1 + 1 + 1, 0, none⟩)] w fun e w' => e = .returned (.int .i64 (standU enc (bytL s) j)) ∧ ∃ q, w' = w.drewN q := by
  have HU := Lib.hid (show standU enc (bytL s) j = if enc = 2 then bA s j + 256 * bA s (j + 1) else 256 * bA s j + bA s (j + 1) by rw [bA_at, bA_at]; rfl)
  have r0 := bA_rng s j
  have r1 := bA_rng s (j + 1)
  have HQ0 := Lib.hid (fun q => he.bq j (by omega) i (by omega) q)
  have HQ1 := Lib.hid (fun q => he.bq (j + 1) (by omega) (i + 1) (by omega) q)
  obtain ⟨x, hx⟩ : ∃ x, x = bA s j := ⟨_, rfl⟩
  obtain ⟨y, hy⟩ : ∃ y, y = bA s (j + 1) := ⟨_, rfl⟩
  rw [← hx] at HU r0 HQ0
  rw [← hy] at HU r1 HQ1
  clear hx hy
  obtain ⟨x0, x1⟩ := r0
  obtain ⟨y0, y1⟩ := r1
  obtain ⟨e0, e1, e2, e3, esz⟩ := he
  have hi0 : 0 ≤ i ∧ i ≤ 2 := by omega
  obtain ⟨i0, i1⟩ := hi0
  clear hi
  have w0 : IntKind.i64.wrap (i + 1) = i + 1 := IntWalk.i64_in _ (by omega)
  by_cases h : enc = 2
  · subst h
    rw [if_pos rfl] at HU
    have w1 : IntKind.i64.wrap (256 * y) = 256 * y := IntWalk.i64_in _ (by omega)
    have w2 : IntKind.i64.wrap (x + 256 * y) = x + 256 * y := IntWalk.i64_in _ (by omega)
    go_enter Try.func30, Try.ntmps30
    go_wp2_with fail
    go_quiet ((first | ((with_reducible refine Calls.mono (HQ0.out _) ?_); exact fun e w' h => ⟨h.1, _, h.2.symm⟩) | ((with_reducible refine Calls.mono (HQ1.out _) ?_); exact fun e w' h => ⟨h.1, _, h.2.symm⟩)))
    clear w0 w1 w2
    go_wp2
    go_ret
    exact ⟨by rw [HU.out]; rfl, _, rfl⟩
  · rw [if_neg h] at HU
    have hb : (enc == 2) = false := by simpa using h
    have w1 : IntKind.i64.wrap (256 * x) = 256 * x := IntWalk.i64_in _ (by omega)
    have w2 : IntKind.i64.wrap (256 * x + y) = 256 * x + y := IntWalk.i64_in _ (by omega)
    clear h
    go_enter Try.func30, Try.ntmps30
    go_wp2_with fail
    go_quiet ((first | ((with_reducible refine Calls.mono (HQ0.out _) ?_); exact fun e w' h => ⟨h.1, _, h.2.symm⟩) | ((with_reducible refine Calls.mono (HQ1.out _) ?_); exact fun e w' h => ⟨h.1, _, h.2.symm⟩)))
    clear w0 w1 w2
    go_wp2
    go_ret
    exact ⟨by rw [HU.out]; rfl, _, rfl⟩
/-- Standing, two bytes a unit -/
theorem go_tt {p : Prop} [Decidable p] {b : Bool} (h : b = decide p) : (b = true ↔ p) := by rw [h]; exact decide_eq_true_iff
set_option maxRecDepth 100000 in
set_option maxHeartbeats 2000000 in
theorem stand_16 (enc : Int) (he : enc = 2 ∨ enc = 3) (s : ByteArray) (w : World) (hs : s.size ≤ 4) (hs0 : 0 < s.size) : Calls Try.prog 14 #[.int .i64 enc, .string s, .int .i64 0] w (StandP w enc s) := by
  have EG := Lib.hid (show ∀ args w, (callFunc 29 args).run Try.prog w = .ok (.enter 29 args) w from enters_of Try.func29 (by kernel_rfl) rfl)
  have EG2 := Lib.hid (show ∀ args w, (callFunc 30 args).run Try.prog w = .ok (.enter 30 args) w from enters_of Try.func30 (by kernel_rfl) rfl)
  have HEV := Lib.hid (senvW_env w enc s)
  have HBW := Lib.hid (senvW_below w enc s)
  have HE4 := Lib.hid (show enc = 1 ∨ enc = 2 ∨ enc = 3 ∨ enc = 4 by omega)
  have hn4 : (enc == 4) = false := by simp; omega
  have hn1 : (enc == 1) = false := by simp; omega
  obtain ⟨W, hW⟩ : ∃ W, W = senvW w enc s := ⟨_, rfl⟩
  rw [← hW] at HEV HBW
  have HC := Lib.hid (fun c (h : bytL s = codeE enc c) (hc : ScalE enc c) => (show standP enc (bytL s) = c by rw [h]; exact standP_code (by omega) hc))
  have HP := Lib.hid (show standP enc (bytL s) = if 0 ≤ bA s 1 ∧ 55296 ≤ standU enc (bytL s) 0 ∧ standU enc (bytL s) 0 ≤ 56319 then 65536 + (standU enc (bytL s) 0 - 55296) * 1024 + standU enc (bytL s) 2 - 56320 else standU enc (bytL s) 0 from by
    rw [bA_at]; unfold standP; rw [if_neg (by omega)])
  have B0 := Lib.hid (show Calls Try.prog 29 #[.int .i64 0, .pointer (some ⟨w.heap.size + 1 + 1, 0, none⟩), .pointer (some ⟨w.heap.size + 1, 0, none⟩)] W fun e w' => e = .returned (.int .i64 (bA s 0)) ∧ W = w' from HEV.out.b 0 (by decide))
  have HQ1 := Lib.hid (fun (W' : World) (h : SEnv W' w.heap.size enc s) => (show Calls Try.prog 29 #[.int .i64 1, .pointer (some ⟨w.heap.size + 1 + 1, 0, none⟩), .pointer (some ⟨w.heap.size + 1, 0, none⟩)] W' fun e w' => e = .returned (.int .i64 (bA s 1)) ∧ W' = w' from h.b 1 (by decide)))
  have HU0 := Lib.hid (clo30 enc s 0 0 (by decide) _ W HEV.out)
  have HU2 := Lib.hid (fun (W' : World) (h : SEnv W' w.heap.size enc s) => clo30 enc s 2 2 (by decide) _ W' h)
  have r00 : 0 ≤ bA s 0 ∧ bA s 0 ≤ 255 := by have := byt_rng s 0; unfold bA; rw [if_pos hs0]; omega
  have rb1 := bA_rng s 1
  have ru : ∀ j, -257 ≤ standU enc (bytL s) j ∧ standU enc (bytL s) j ≤ 65535 := fun j => by
    have h1 := bA_rng s j
    have h2 := bA_rng s (j + 1)
    unfold standU
    rw [← bA_at, ← bA_at]
    split <;> omega
  have ru0 := ru 0
  have ru2 := ru 2
  clear ru he
  obtain ⟨b0, hb0⟩ : ∃ b0, b0 = bA s 0 := ⟨_, rfl⟩
  obtain ⟨b1, hb1⟩ : ∃ b1, b1 = bA s 1 := ⟨_, rfl⟩
  obtain ⟨u0, hu0⟩ : ∃ u0, u0 = standU enc (bytL s) 0 := ⟨_, rfl⟩
  obtain ⟨u2, hu2⟩ : ∃ u2, u2 = standU enc (bytL s) 2 := ⟨_, rfl⟩
  rw [← hb0] at B0 r00
  rw [← hb1] at HP HQ1 rb1
  rw [← hu0] at HP HU0 ru0
  rw [← hu2] at HP HU2 ru2
  clear hb0 hb1 hu0 hu2
  obtain ⟨e0, e1, e2, e3, esz⟩ := HEV.out
  unfold senvW at hW
  obtain ⟨r0a, r0b⟩ := r00
  obtain ⟨r1a, r1b⟩ := rb1
  obtain ⟨ua, ub⟩ := ru0
  obtain ⟨uc, ud⟩ := ru2
  go_enter Try.func14, Try.ntmps14
  go_wp2_with fail
  rw [← hW]
  clear hW
  refine Calls.mono B0.out ?_
  rintro e w' ⟨rfl, rfl⟩
  go_wp2_with fail
  refine Calls.mono HU0.out ?_
  rintro e w' ⟨rfl, nu, rfl⟩
  obtain ⟨W1, hW1⟩ : ∃ W1, W1 = W.drewN nu := ⟨_, rfl⟩
  have HE1 := Lib.hid (HEV.out.drewN nu)
  have HB1 := Lib.hid (below_drewN HBW.out nu)
  rw [← hW1] at HE1 HB1 ⊢
  clear hW1 e0 e1 e2 e3
  have g0 := HE1.out.c0
  have g3 := HE1.out.c3
  have HQ := Lib.hid (HQ1.out W1 HE1.out)
  clear HQ1
  obtain ⟨tt, htt⟩ : ∃ tt, tt = decide (0 ≤ b1 ∧ 55296 ≤ u0 ∧ u0 ≤ 56319) := ⟨_, rfl⟩
  have HTT := Lib.hid htt
  clear htt
  go_upto_region 5 with (fail)
  go_cut [27] from 17 to 27 (fun z wc => z = .bool tt ∧ W1 = wc)
  case first =>
    go_wp2_with fail
    refine Calls.mono HQ.out ?_
    rintro e w' ⟨rfl, rfl⟩
    by_cases c1 : 0 ≤ b1
    · by_cases c2 : 55296 ≤ u0
      · by_cases c3 : u0 ≤ 56319
        · have e : tt = true := by rw [HTT.out]; exact decide_eq_true ⟨c1, c2, c3⟩
          subst e
          go_wp2_with fail
          go_meet
          exact ⟨rfl, rfl⟩
        · have e : tt = false := by rw [HTT.out]; exact decide_eq_false fun h => c3 h.2.2
          subst e
          go_wp2_with fail
          go_meet
          exact ⟨congrArg Value.bool (decide_eq_false (by omega)), rfl⟩
      · have e : tt = false := by rw [HTT.out]; exact decide_eq_false fun h => c2 h.2.1
        subst e
        go_wp2_with fail
        go_meet
        exact ⟨rfl, rfl⟩
    · have e : tt = false := by rw [HTT.out]; exact decide_eq_false fun h => c1 h.1
      subst e
      go_wp2_with fail
      go_meet
      exact ⟨rfl, rfl⟩
  case rest =>
  obtain ⟨rfl, rfl⟩ := hcut
  cases tt
  · have HPP := Lib.hid (show standP enc (bytL s) = u0 by rw [HP.out, if_neg (of_decide_eq_false HTT.out.symm)])
    clear HP
    go_wp2_with fail
    obtain ⟨W2, hW2⟩ : ∃ W2, W2 = W1 := ⟨_, rfl⟩
    have HB2 := Lib.hid HB1.out
    have HE2 := Lib.hid HE1.out
    rw [← hW2] at HB2 HE2 ⊢
    clear hW2 g0 g3
    obtain ⟨P, hP⟩ : ∃ P, P = standP enc (bytL s) := ⟨_, rfl⟩
    rw [← hP] at HPP HC
    rw [← HPP.out]
    clear hP
    have f0 := HE2.out.c0
    have f3 := HE2.out.c3
    cases hsc : scalarB enc P
    · have HS := Lib.hid hsc
      clear hsc
      have HFIN := Lib.hid (show StandP w enc s (.returned (.tuple #[.int .i64 (-1), .int .i64 0])) W2 from ⟨-1, 0, rfl, HB2.out, Lib.hid fun c k1 k2 => by
        have e := HS.out
        rw [HC.out c k1 k2, scalarB_eq, (scalB_iff enc c).2 k2] at e
        cases e⟩)
      refine (isScalar_any enc P _).mono ?_
      rintro e w' ⟨rfl, rfl⟩
      rw [HS.out]
      go_wp2_with fail
      go_ret2
      exact HFIN.out
    · have HS := Lib.hid hsc
      obtain ⟨q1, q2, q3, _⟩ := scalar_bounds hsc
      have Q3 := Lib.hid q3
      clear hsc q3
      refine (isScalar_any enc P _).mono ?_
      rintro e w' ⟨rfl, rfl⟩
      rw [HS.out]
      go_wp2_with fail
      refine (bytesOf_any enc P _ HE4.out q1 q2 Q3.out).mono ?_
      rintro e w3 ⟨A1, n1, c1, rfl, hown1, hb1⟩
      have hl1 := own_ints_len hown1
      have hn1 : n1 ≤ 4 := by rw [hl1]; exact bytesOf_len _ _
      have HCC := Lib.hid (fun c (k1 : bytL s = codeE enc c) (k2 : ScalE enc c) => (show bytesOf enc P = bytL s by rw [HC.out c k1 k2, bytesOf_code k2, k1]))
      have HR3 := Lib.hid (Rds.of_own hown1)
      have HE3 := Lib.hid (HE2.out.below hb1)
      have HB3 := Lib.hid (HB2.out.trans (hb1.mono HB2.out.size))
      obtain ⟨L, hL⟩ : ∃ L, L = bytesOf enc P := ⟨_, rfl⟩
      rw [← hL] at hl1 HCC HR3
      have HLL := Lib.hid hl1
      clear hown1 hb1 hl1 hL
      clear f0 f3
      have f3 := HE3.out.c3
      go_wp2_with fail
      clear f3
      go_loopw [12] (fun i wr => ∃ k : Nat, i = .int .i64 (k : Int) ∧ k ≤ n1 ∧ Hid (Rds wr wr.heap.size 1 A1 n1 (ints L)) ∧ Hid (SEnv wr w.heap.size enc s) ∧ Hid (Below w.heap.size w wr)) (fun i _ => n1 - (intOf i).toNat)
      case atStart => exact ⟨0, by go_num, by omega, HR3, HE3, HB3⟩
      case round =>
        obtain ⟨k, rfl, hk, HR, HE, HB⟩ := hrel
        by_cases hkn : k < n1
        · have hkn' : (k : Int) < (n1 : Int) := by omega
          have hk0 : (0 : Int) ≤ (k : Int) := by omega
          obtain ⟨b9, o9, hkl, hA, hb9, hcell⟩ := HR.out.int_at hkn
          subst hA
          have BK := Lib.hid (fun q => (HE.out.drewN q).b k (by omega))
          have HM := Lib.hid (fun (hne : ¬ bA s k = L[k]) c (k1 : bytL s = codeE enc c) (k2 : ScalE enc c) => (show False from hne (by
            have e := HCC.out c k1 k2
            rw [bA_at, bAt, List.getD_eq_getElem?_getD, ← e, List.getElem?_eq_getElem hkl]; rfl)))
          obtain ⟨x, hx⟩ : ∃ x, x = L[k] := ⟨_, rfl⟩
          obtain ⟨z, hz⟩ : ∃ z, z = bA s k := ⟨_, rfl⟩
          rw [← hx] at hcell HM
          rw [← hz] at BK HM
          clear hx hz
          have f3 := HE.out.c3
          go_wp2_with fail
          go_quiet ((exact (BK.out _).mono fun e w' h => ⟨h.1, _, h.2.symm⟩))
          have HRq := Lib.hid (HR.out.drewN nq)
          have HEq := Lib.hid (HE.out.drewN nq)
          have HBq := Lib.hid (below_drewN HB.out nq)
          by_cases hzx : z = x
          · have hzb : (z != x) = false := by simp [hzx]
            clear hzx
            go_wp2_with fail
            go_roundw
            case rel => exact ⟨k + 1, by go_num, by omega, HRq, HEq, HBq⟩
            case measure => simp only [intOf]; omega
          · have hzb : (z != x) = true := by simp [hzx]
            have HM2 := Lib.hid (HM.out hzx)
            clear hzx
            have HFIN := Lib.hid (show StandP w enc s (.returned (.tuple #[.int .i64 (-1), .int .i64 0])) (wr.drewN nq) from ⟨-1, 0, rfl, HBq.out, Lib.hid fun c k1 k2 => (HM2.out c k1 k2).elim⟩)
            go_wp2_with fail
            go_ret2
            exact HFIN.out
        · have hkn' : ¬ (k : Int) < (n1 : Int) := by omega
          have HFIN := Lib.hid (show StandP w enc s (.returned (.tuple #[.int .i64 P, .int .i64 (n1 : Int)])) wr from ⟨P, n1, rfl, HB.out, Lib.hid fun c k1 k2 => ⟨HC.out c k1 k2, by rw [HLL.out, HCC.out c k1 k2, bytL_len]⟩⟩)
          go_wp2_with fail
          go_ret2
          exact HFIN.out
  · have hq := of_decide_eq_true HTT.out.symm
    have HPP := Lib.hid (show standP enc (bytL s) = 65536 + (u0 - 55296) * 1024 + u2 - 56320 by rw [HP.out, if_pos hq])
    obtain ⟨_, hq1, hq2⟩ := hq
    clear HP
    go_wp2_with fail
    refine Calls.mono (HU2.out W1 HE1.out) ?_
    rintro e w' ⟨rfl, nq, rfl⟩
    obtain ⟨W2, hW2⟩ : ∃ W2, W2 = W1.drewN nq := ⟨_, rfl⟩
    have HB2 := Lib.hid (below_drewN HB1.out nq)
    have HE2 := Lib.hid (HE1.out.drewN nq)
    rw [← hW2] at HB2 HE2 ⊢
    clear hW2 g0 g3
    have f0 := HE2.out.c0
    go_wp2_with fail
    clear f0
    obtain ⟨P, hP⟩ : ∃ P, P = standP enc (bytL s) := ⟨_, rfl⟩
    rw [← hP] at HPP HC
    rw [← HPP.out]
    clear hP
    have f0 := HE2.out.c0
    have f3 := HE2.out.c3
    cases hsc : scalarB enc P
    · have HS := Lib.hid hsc
      clear hsc
      have HFIN := Lib.hid (show StandP w enc s (.returned (.tuple #[.int .i64 (-1), .int .i64 0])) W2 from ⟨-1, 0, rfl, HB2.out, Lib.hid fun c k1 k2 => by
        have e := HS.out
        rw [HC.out c k1 k2, scalarB_eq, (scalB_iff enc c).2 k2] at e
        cases e⟩)
      refine (isScalar_any enc P _).mono ?_
      rintro e w' ⟨rfl, rfl⟩
      rw [HS.out]
      go_wp2_with fail
      go_ret2
      exact HFIN.out
    · have HS := Lib.hid hsc
      obtain ⟨q1, q2, q3, _⟩ := scalar_bounds hsc
      have Q3 := Lib.hid q3
      clear hsc q3
      refine (isScalar_any enc P _).mono ?_
      rintro e w' ⟨rfl, rfl⟩
      rw [HS.out]
      go_wp2_with fail
      refine (bytesOf_any enc P _ HE4.out q1 q2 Q3.out).mono ?_
      rintro e w3 ⟨A1, n1, c1, rfl, hown1, hb1⟩
      have hl1 := own_ints_len hown1
      have hn1 : n1 ≤ 4 := by rw [hl1]; exact bytesOf_len _ _
      have HCC := Lib.hid (fun c (k1 : bytL s = codeE enc c) (k2 : ScalE enc c) => (show bytesOf enc P = bytL s by rw [HC.out c k1 k2, bytesOf_code k2, k1]))
      have HR3 := Lib.hid (Rds.of_own hown1)
      have HE3 := Lib.hid (HE2.out.below hb1)
      have HB3 := Lib.hid (HB2.out.trans (hb1.mono HB2.out.size))
      obtain ⟨L, hL⟩ : ∃ L, L = bytesOf enc P := ⟨_, rfl⟩
      rw [← hL] at hl1 HCC HR3
      have HLL := Lib.hid hl1
      clear hown1 hb1 hl1 hL
      clear f0 f3
      have f3 := HE3.out.c3
      go_wp2_with fail
      clear f3
      go_loopw [12] (fun i wr => ∃ k : Nat, i = .int .i64 (k : Int) ∧ k ≤ n1 ∧ Hid (Rds wr wr.heap.size 1 A1 n1 (ints L)) ∧ Hid (SEnv wr w.heap.size enc s) ∧ Hid (Below w.heap.size w wr)) (fun i _ => n1 - (intOf i).toNat)
      case atStart => exact ⟨0, by go_num, by omega, HR3, HE3, HB3⟩
      case round =>
        obtain ⟨k, rfl, hk, HR, HE, HB⟩ := hrel
        by_cases hkn : k < n1
        · have hkn' : (k : Int) < (n1 : Int) := by omega
          have hk0 : (0 : Int) ≤ (k : Int) := by omega
          obtain ⟨b9, o9, hkl, hA, hb9, hcell⟩ := HR.out.int_at hkn
          subst hA
          have BK := Lib.hid (fun q => (HE.out.drewN q).b k (by omega))
          have HM := Lib.hid (fun (hne : ¬ bA s k = L[k]) c (k1 : bytL s = codeE enc c) (k2 : ScalE enc c) => (show False from hne (by
            have e := HCC.out c k1 k2
            rw [bA_at, bAt, List.getD_eq_getElem?_getD, ← e, List.getElem?_eq_getElem hkl]; rfl)))
          obtain ⟨x, hx⟩ : ∃ x, x = L[k] := ⟨_, rfl⟩
          obtain ⟨z, hz⟩ : ∃ z, z = bA s k := ⟨_, rfl⟩
          rw [← hx] at hcell HM
          rw [← hz] at BK HM
          clear hx hz
          have f3 := HE.out.c3
          go_wp2_with fail
          go_quiet ((exact (BK.out _).mono fun e w' h => ⟨h.1, _, h.2.symm⟩))
          have HRq := Lib.hid (HR.out.drewN nq)
          have HEq := Lib.hid (HE.out.drewN nq)
          have HBq := Lib.hid (below_drewN HB.out nq)
          by_cases hzx : z = x
          · have hzb : (z != x) = false := by simp [hzx]
            clear hzx
            go_wp2_with fail
            go_roundw
            case rel => exact ⟨k + 1, by go_num, by omega, HRq, HEq, HBq⟩
            case measure => simp only [intOf]; omega
          · have hzb : (z != x) = true := by simp [hzx]
            have HM2 := Lib.hid (HM.out hzx)
            clear hzx
            have HFIN := Lib.hid (show StandP w enc s (.returned (.tuple #[.int .i64 (-1), .int .i64 0])) (wr.drewN nq) from ⟨-1, 0, rfl, HBq.out, Lib.hid fun c k1 k2 => (HM2.out c k1 k2).elim⟩)
            go_wp2_with fail
            go_ret2
            exact HFIN.out
        · have hkn' : ¬ (k : Int) < (n1 : Int) := by omega
          have HFIN := Lib.hid (show StandP w enc s (.returned (.tuple #[.int .i64 P, .int .i64 (n1 : Int)])) wr from ⟨P, n1, rfl, HB.out, Lib.hid fun c k1 k2 => ⟨HC.out c k1 k2, by rw [HLL.out, HCC.out c k1 k2, bytL_len]⟩⟩)
          go_wp2_with fail
          go_ret2
          exact HFIN.out
set_option maxRecDepth 100000 in
set_option maxHeartbeats 2000000 in
theorem stand_4 (s : ByteArray) (w : World) (hs0 : 0 < s.size) : Calls Try.prog 14 #[.int .i64 4, .string s, .int .i64 0] w (StandP w 4 s) := by
  have EG := Lib.hid (show ∀ args w, (callFunc 29 args).run Try.prog w = .ok (.enter 29 args) w from enters_of Try.func29 (by kernel_rfl) rfl)
  have HEV := Lib.hid (senvW_env w 4 s)
  have HBW := Lib.hid (senvW_below w 4 s)
  obtain ⟨W, hW⟩ : ∃ W, W = senvW w 4 s := ⟨_, rfl⟩
  rw [← hW] at HEV HBW
  have B0 := Lib.hid (show Calls Try.prog 29 #[.int .i64 0, .pointer (some ⟨w.heap.size + 1 + 1, 0, none⟩), .pointer (some ⟨w.heap.size + 1, 0, none⟩)] W fun e w' => e = .returned (.int .i64 (bA s 0)) ∧ W = w' from HEV.out.b 0 (by decide))
  have r00 : ¬ bA s 0 < 0 := by have := byt_rng s 0; unfold bA; rw [if_pos hs0]; omega
  have HF := Lib.hid (show StandP w 4 s (.returned (.tuple #[.int .i64 (bA s 0), .int .i64 1])) W from ⟨_, _, rfl, HBW.out, Lib.hid fun c h _ => by
    have h1 : codeE 4 c = [c] := by simp [codeE]
    rw [h1] at h
    refine ⟨by rw [bA_at, h]; rfl, ?_⟩
    have := bytL_len s
    rw [h] at this
    rw [List.length_singleton] at this
    omega⟩)
  obtain ⟨b0, hb0⟩ : ∃ b0, b0 = bA s 0 := ⟨_, rfl⟩
  rw [← hb0] at B0 r00 HF
  clear hb0
  obtain ⟨e0, e1, e2, e3, esz⟩ := HEV.out
  unfold senvW at hW
  go_enter Try.func14, Try.ntmps14
  go_wp2_with fail
  rw [← hW]
  clear hW
  go_wp2_with (go_at_call 29; (with_reducible refine Calls.mono B0.out ?_); rintro e w' ⟨rfl, rfl⟩)
  go_ret2
  exact HF.out
set_option maxRecDepth 100000 in
set_option maxHeartbeats 2000000 in
theorem stand_0 (enc : Int) (he : 1 ≤ enc ∧ enc ≤ 4) (s : ByteArray) (w : World) (hs0 : s.size = 0) : Calls Try.prog 14 #[.int .i64 enc, .string s, .int .i64 0] w (StandP w enc s) := by
  have EG := Lib.hid (show ∀ args w, (callFunc 29 args).run Try.prog w = .ok (.enter 29 args) w from enters_of Try.func29 (by kernel_rfl) rfl)
  have HEV := Lib.hid (senvW_env w enc s)
  have HBW := Lib.hid (senvW_below w enc s)
  obtain ⟨W, hW⟩ : ∃ W, W = senvW w enc s := ⟨_, rfl⟩
  rw [← hW] at HEV HBW
  have B0 := Lib.hid (show Calls Try.prog 29 #[.int .i64 0, .pointer (some ⟨w.heap.size + 1 + 1, 0, none⟩), .pointer (some ⟨w.heap.size + 1, 0, none⟩)] W fun e w' => e = .returned (.int .i64 (bA s 0)) ∧ W = w' from HEV.out.b 0 (by decide))
  have r00 : bA s 0 < 0 := by unfold bA; rw [if_neg (by omega)]; decide
  have HF := Lib.hid (show StandP w enc s (.returned (.tuple #[.int .i64 (-1), .int .i64 0])) W from ⟨_, _, rfl, HBW.out, Lib.hid fun c h _ => by
    have := bytL_len s
    rw [h, hs0] at this
    exact absurd (List.eq_nil_of_length_eq_zero this) (codeE_pos he)⟩)
  obtain ⟨b0, hb0⟩ : ∃ b0, b0 = bA s 0 := ⟨_, rfl⟩
  rw [← hb0] at B0 r00
  clear hb0
  obtain ⟨e0, e1, e2, e3, esz⟩ := HEV.out
  unfold senvW at hW
  go_enter Try.func14, Try.ntmps14
  go_wp2_with fail
  rw [← hW]
  clear hW
  go_wp2_with (go_at_call 29; (with_reducible refine Calls.mono B0.out ?_); rintro e w' ⟨rfl, rfl⟩)
  go_ret2
  exact HF.out
theorem stand14 (enc : Int) (he : 1 ≤ enc ∧ enc ≤ 4) (s : ByteArray) (w : World) (hs : s.size ≤ 4) : Calls Try.prog 14 #[.int .i64 enc, .string s, .int .i64 0] w (StandP w enc s) := by
  rcases Nat.eq_zero_or_pos s.size with h0 | h0
  · exact stand_0 enc he s w h0
  · have hc : enc = 1 ∨ (enc = 2 ∨ enc = 3) ∨ enc = 4 := by omega
    rcases hc with rfl | h | rfl
    · exact stand_1 s w hs h0
    · exact stand_16 enc h s w hs h0
    · exact stand_4 s w h0
end Go.Proofs.Ytihodjfnhkihiaa
