/- Standing of the reference: its two closures, and it: walked. -/
import Derived.Test.YtihodjfnhkihiaaSplEC
import Derived.Test.YtihodjfnhkihiaaSplD
import Derived.BigQuiet
import Derived.Deep.QuietTactic
namespace Go.Proofs.Ytihodjfnhkihiaa
open Go.RowKit
set_option linter.unusedVariables false
set_option maxRecDepth 100000 in
set_option maxHeartbeats 1000000 in
theorem clo29 (s : ByteArray) (i : Nat) (a b : Nat) (w : World) (hi : i ≤ 10) (ha : w.cell? ⟨a, 0, none⟩ = some (.int .i64 0)) (hb : w.cell? ⟨b, 0, none⟩ = some (.string s)) :
    Calls Try.prog 29 #[.int .i64 (i : Int), .pointer (some ⟨a, 0, none⟩), .pointer (some ⟨b, 0, none⟩)] w fun e w' => e = .returned (.int .i64 (bA s i)) ∧ w = w' := by
  have hi0 : (0 : Int) ≤ (i : Int) := by omega
  by_cases h : i < s.size
  · have hz : bA s i = byt s i := by unfold bA; rw [if_pos h]
    have hw := byt_wrap s i h
    have h' : (i : Int) < (s.size : Int) := by omega
    rw [hz]
    clear hz
    go_enter Try.func29, Try.ntmps29
    go_wp2
    go_ret
    exact ⟨ret_int hw, rfl⟩
  · have hz : bA s i = -1 := by unfold bA; rw [if_neg h]
    have h' : ¬ (i : Int) < (s.size : Int) := by omega
    rw [hz]
    clear hz
    go_enter Try.func29, Try.ntmps29
    go_wp2
    go_ret
    exact ⟨rfl, rfl⟩
/-- what Standing answers: of a text that is a point's bytes, that point -/
def StandP (w : World) (enc : Int) (s : ByteArray) (e : Ending) (w' : World) : Prop :=
  ∃ q n : Int, e = .returned (.tuple #[.int .i64 q, .int .i64 n]) ∧ Below w.heap.size w w' ∧ Hid (∀ c, bytL s = codeE enc c → ScalE enc c → q = c ∧ n = s.size)
/-- its boxes -/
structure SEnv (w : World) (g : Nat) (enc : Int) (s : ByteArray) : Prop where
  c0 : w.cell? ⟨g, 0, none⟩ = some (.int .i64 enc)
  c1 : w.cell? ⟨g + 1, 0, none⟩ = some (.string s)
  c2 : w.cell? ⟨g + 1 + 1, 0, none⟩ = some (.int .i64 0)
  c3 : w.cell? ⟨g + 1 + 1 + 1, 0, none⟩ = some (.func (.func 29) #[] #[.pointer (some ⟨g + 1 + 1, 0, none⟩), .pointer (some ⟨g + 1, 0, none⟩)])
  sz : g + 1 + 1 + 1 < w.heap.size
def senvW (w : World) (enc : Int) (s : ByteArray) : World := (((w.alloc (.cells #[.int .i64 enc] 3)).alloc (.cells #[.string s] 9)).alloc (.cells #[.int .i64 0] 3)).alloc (.cells #[.func (.func 29) #[] #[.pointer (some ⟨w.heap.size + 1 + 1, 0, none⟩), .pointer (some ⟨w.heap.size + 1, 0, none⟩)]] 56)
theorem senvW_env (w : World) (enc : Int) (s : ByteArray) : SEnv (senvW w enc s) w.heap.size enc s := by
  have z1 : ∀ o, (w.alloc o).heap.size = w.heap.size + 1 := fun o => by simp
  have z2 : ∀ o p, ((w.alloc o).alloc p).heap.size = w.heap.size + 1 + 1 := fun o p => by simp
  have z3 : ∀ o p q, (((w.alloc o).alloc p).alloc q).heap.size = w.heap.size + 1 + 1 + 1 := fun o p q => by simp
  unfold senvW
  refine ⟨?_, ?_, ?_, ?_, by simp⟩
  · rw [World.cell?_alloc_lt _ _ _ (by rw [z3]; simp; omega), World.cell?_alloc_lt _ _ _ (by rw [z2]; simp; omega), World.cell?_alloc_lt _ _ _ (by rw [z1]; simp)]
    exact cell_newb w _ 3 _ 0 _ rfl rfl
  · rw [World.cell?_alloc_lt _ _ _ (by rw [z3]; simp), World.cell?_alloc_lt _ _ _ (by rw [z2]; simp)]
    exact cell_newb _ _ 9 _ 0 _ (z1 _) rfl
  · rw [World.cell?_alloc_lt _ _ _ (by rw [z3]; simp)]
    exact cell_newb _ _ 3 _ 0 _ (z2 _ _) rfl
  · exact cell_newb _ _ 56 _ 0 _ (z3 _ _ _) rfl
theorem senvW_below (w : World) (enc : Int) (s : ByteArray) : Below w.heap.size w (senvW w enc s) := by unfold senvW; go_grown
theorem SEnv.below {w w' : World} {g : Nat} {enc : Int} {s : ByteArray} (h : SEnv w g enc s) (hb : Below w.heap.size w w') : SEnv w' g enc s :=
  ⟨by rw [hb.cell (p := ⟨g, 0, none⟩) (by have := h.sz; show g < _; omega)]; exact h.c0, by rw [hb.cell (p := ⟨g + 1, 0, none⟩) (by have := h.sz; show g + 1 < _; omega)]; exact h.c1,
   by rw [hb.cell (p := ⟨g + 1 + 1, 0, none⟩) (by have := h.sz; show g + 1 + 1 < _; omega)]; exact h.c2, by rw [hb.cell (p := ⟨g + 1 + 1 + 1, 0, none⟩) h.sz]; exact h.c3, Nat.lt_of_lt_of_le h.sz hb.size⟩
theorem SEnv.drewN {w : World} {g : Nat} {enc : Int} {s : ByteArray} (h : SEnv w g enc s) (q : Nat) : SEnv (w.drewN q) g enc s := ⟨h.c0, h.c1, h.c2, h.c3, h.sz⟩
theorem SEnv.b {w : World} {g : Nat} {enc : Int} {s : ByteArray} (h : SEnv w g enc s) (i : Nat) (hi : i ≤ 10) : Calls Try.prog 29 #[.int .i64 (i : Int), .pointer (some ⟨g + 1 + 1, 0, none⟩), .pointer (some ⟨g + 1, 0, none⟩)] w fun e w' => e = .returned (.int .i64 (bA s i)) ∧ w = w' :=
  clo29 s i _ _ w hi h.c2 h.c1
theorem tmod_rng (x m : Int) (hm : 0 < m) : -m < x.tmod m ∧ x.tmod m < m := ⟨Int.lt_tmod_of_pos x hm, Int.tmod_lt_of_pos x hm⟩
theorem tmod_pos (x m : Int) (hx : 0 ≤ x) (hm : 0 < m) : 0 ≤ x.tmod m ∧ x.tmod m < m := ⟨Int.tmod_nonneg m hx, Int.tmod_lt_of_pos x hm⟩
set_option maxRecDepth 100000 in
set_option maxHeartbeats 2000000 in
theorem stand_1 (s : ByteArray) (w : World) (hs : s.size ≤ 4) (hs0 : 0 < s.size) : Calls Try.prog 14 #[.int .i64 1, .string s, .int .i64 0] w (StandP w 1 s) := by
  have EG := Lib.hid (show ∀ args w, (callFunc 29 args).run Try.prog w = .ok (.enter 29 args) w from enters_of Try.func29 (by kernel_rfl) rfl)
  have HEV := Lib.hid (senvW_env w 1 s)
  have HBW := Lib.hid (senvW_below w 1 s)
  obtain ⟨W, hW⟩ : ∃ W, W = senvW w 1 s := ⟨_, rfl⟩
  rw [← hW] at HEV HBW
  have HC := Lib.hid (fun c (h : bytL s = codeE 1 c) (hc : ScalE 1 c) => (show standP 1 (bytL s) = c by rw [h]; exact standP_code (by decide) hc))
  have B0 := Lib.hid (show Calls Try.prog 29 #[.int .i64 0, .pointer (some ⟨w.heap.size + 1 + 1, 0, none⟩), .pointer (some ⟨w.heap.size + 1, 0, none⟩)] W fun e w' => e = .returned (.int .i64 (bA s 0)) ∧ W = w' from HEV.out.b 0 (by decide))
  have HQ0 := Lib.hid (fun q => (show Calls Try.prog 29 #[.int .i64 0, .pointer (some ⟨w.heap.size + 1 + 1, 0, none⟩), .pointer (some ⟨w.heap.size + 1, 0, none⟩)] (W.drewN q) fun e w' => e = .returned (.int .i64 (bA s 0)) ∧ W.drewN q = w' from (HEV.out.drewN q).b 0 (by decide)))
  have r0 := bA_rng s 0
  have r00 : 0 ≤ bA s 0 := by have := byt_rng s 0; unfold bA; rw [if_pos hs0]; exact this.1
  have HP := Lib.hid (show standP 1 (bytL s) = if bA s 0 < 128 then bA s 0 else if bA s 0 < 224 then (bA s 0).tmod 32 * 64 + (bA s 1).tmod 64 else if bA s 0 < 240 then (bA s 0).tmod 16 * 4096 + (bA s 1).tmod 64 * 64 + (bA s 2).tmod 64 else (bA s 0).tmod 8 * 262144 + (bA s 1).tmod 64 * 4096 + (bA s 2).tmod 64 * 64 + (bA s 3).tmod 64 from by
    rw [bA_at, bA_at, bA_at, bA_at]; rfl)
  obtain ⟨b0, hb0⟩ : ∃ b0, b0 = bA s 0 := ⟨_, rfl⟩
  rw [← hb0] at B0 HQ0 r0 r00 HP
  clear hb0
  obtain ⟨e0, e1, e2, e3, esz⟩ := HEV.out
  unfold senvW at hW
  obtain ⟨r1, r2⟩ := r0
  go_enter Try.func14, Try.ntmps14
  go_wp2_with fail
  rw [← hW]
  clear hW
  by_cases h1 : b0 < 128
  · have HPP := Lib.hid (show standP 1 (bytL s) = b0 by rw [HP.out, if_pos h1])
    clear HP HQ0
    go_wp2_with (go_at_call 29; refine B0.out.mono ?_; rintro e w' ⟨rfl, rfl⟩)
    obtain ⟨W2, hW2⟩ : ∃ W2, W2 = W := ⟨_, rfl⟩
    have HB2 := Lib.hid HBW.out
    have HE2 := Lib.hid HEV.out
    rw [← hW2] at HB2 HE2 ⊢
    clear hW2
    obtain ⟨P, hP⟩ : ∃ P, P = standP 1 (bytL s) := ⟨_, rfl⟩
    rw [← hP] at HPP HC
    rw [← HPP.out]
    clear hP e0 e1 e2 e3
    have f0 := HE2.out.c0
    have f3 := HE2.out.c3
    cases hsc : scalarB 1 P
    · have HS := Lib.hid hsc
      clear hsc
      have HFIN := Lib.hid (show StandP w 1 s (.returned (.tuple #[.int .i64 (-1), .int .i64 0])) W2 from ⟨-1, 0, rfl, HB2.out, Lib.hid fun c k1 k2 => by
        have e := HS.out
        rw [HC.out c k1 k2, scalarB_eq, (scalB_iff 1 c).2 k2] at e
        cases e⟩)
      refine (isScalar_any 1 P _).mono ?_
      rintro e w' ⟨rfl, rfl⟩
      rw [HS.out]
      go_wp2_with fail
      go_ret2
      exact HFIN.out
    · have HS := Lib.hid hsc
      obtain ⟨q1, q2, q3, _⟩ := scalar_bounds hsc
      have Q3 := Lib.hid q3
      clear hsc q3
      refine (isScalar_any 1 P _).mono ?_
      rintro e w' ⟨rfl, rfl⟩
      rw [HS.out]
      go_wp2_with fail
      refine (bytesOf_any 1 P _ (by decide) q1 q2 Q3.out).mono ?_
      rintro e w3 ⟨A1, n1, c1, rfl, hown1, hb1⟩
      have hl1 := own_ints_len hown1
      have hn1 : n1 ≤ 4 := by rw [hl1]; exact bytesOf_len _ _
      have HCC := Lib.hid (fun c (k1 : bytL s = codeE 1 c) (k2 : ScalE 1 c) => (show bytesOf 1 P = bytL s by rw [HC.out c k1 k2, bytesOf_code k2, k1]))
      have HR3 := Lib.hid (Rds.of_own hown1)
      have HE3 := Lib.hid (HE2.out.below hb1)
      have HB3 := Lib.hid (HB2.out.trans (hb1.mono HB2.out.size))
      obtain ⟨L, hL⟩ : ∃ L, L = bytesOf 1 P := ⟨_, rfl⟩
      rw [← hL] at hl1 HCC HR3
      have HLL := Lib.hid hl1
      clear hown1 hb1 hl1 hL
      clear f0 f3
      have f3 := HE3.out.c3
      go_wp2_with fail
      clear f3
      go_loopw [12] (fun i wr => ∃ k : Nat, i = .int .i64 (k : Int) ∧ k ≤ n1 ∧ Hid (Rds wr wr.heap.size 1 A1 n1 (ints L)) ∧ Hid (SEnv wr w.heap.size 1 s) ∧ Hid (Below w.heap.size w wr)) (fun i _ => n1 - (intOf i).toNat)
      case atStart => exact ⟨0, by go_num, by omega, HR3, HE3, HB3⟩
      case round =>
        obtain ⟨k, rfl, hk, HR, HE, HB⟩ := hrel
        by_cases hkn : k < n1
        · have hkn' : (k : Int) < (n1 : Int) := by omega
          have hk0 : (0 : Int) ≤ (k : Int) := by omega
          obtain ⟨b9, o9, hkl, hA, hb9, hcell⟩ := HR.out.int_at hkn
          subst hA
          have BK := Lib.hid (fun q => (HE.out.drewN q).b k (by omega))
          have HM := Lib.hid (fun (hne : ¬ bA s k = L[k]) c (k1 : bytL s = codeE 1 c) (k2 : ScalE 1 c) => (show False from hne (by
            have e := HCC.out c k1 k2
            rw [bA_at, bAt, List.getD_eq_getElem?_getD, ← e, List.getElem?_eq_getElem hkl]; rfl)))
          obtain ⟨x, hx⟩ : ∃ x, x = L[k] := ⟨_, rfl⟩
          obtain ⟨z, hz⟩ : ∃ z, z = bA s k := ⟨_, rfl⟩
          rw [← hx] at hcell HM
          rw [← hz] at BK HM
          clear hx hz
          have f3 := HE.out.c3
          go_wp2_with fail
          go_quiet ((exact (BK.out _).mono fun e w' h => ⟨h.1, _, h.2.symm⟩))
          have HRq := Lib.hid (HR.out.drewN nq)
          have HEq := Lib.hid (HE.out.drewN nq)
          have HBq := Lib.hid (below_drewN HB.out nq)
          by_cases hzx : z = x
          · have hzb : (z != x) = false := by simp [hzx]
            clear hzx
            go_wp2_with fail
            go_roundw
            case rel => exact ⟨k + 1, by go_num, by omega, HRq, HEq, HBq⟩
            case measure => simp only [intOf]; omega
          · have hzb : (z != x) = true := by simp [hzx]
            have HM2 := Lib.hid (HM.out hzx)
            clear hzx
            have HFIN := Lib.hid (show StandP w 1 s (.returned (.tuple #[.int .i64 (-1), .int .i64 0])) (wr.drewN nq) from ⟨-1, 0, rfl, HBq.out, Lib.hid fun c k1 k2 => (HM2.out c k1 k2).elim⟩)
            go_wp2_with fail
            go_ret2
            exact HFIN.out
        · have hkn' : ¬ (k : Int) < (n1 : Int) := by omega
          have HFIN := Lib.hid (show StandP w 1 s (.returned (.tuple #[.int .i64 P, .int .i64 (n1 : Int)])) wr from ⟨P, n1, rfl, HB.out, Lib.hid fun c k1 k2 => ⟨HC.out c k1 k2, by rw [HLL.out, HCC.out c k1 k2, bytL_len]⟩⟩)
          go_wp2_with fail
          go_ret2
          exact HFIN.out
  · by_cases h2 : b0 < 224
    · have HPP := Lib.hid (show standP 1 (bytL s) = b0.tmod 32 * 64 + (bA s 1).tmod 64 by rw [HP.out, if_neg h1, if_pos h2])
      clear HP
      obtain ⟨b1, hb1⟩ : ∃ b1, b1 = bA s 1 := ⟨_, rfl⟩
      have HQ1 := Lib.hid (fun q => (show Calls Try.prog 29 #[.int .i64 1, .pointer (some ⟨w.heap.size + 1 + 1, 0, none⟩), .pointer (some ⟨w.heap.size + 1, 0, none⟩)] (W.drewN q) fun e w' => e = .returned (.int .i64 (bA s 1)) ∧ W.drewN q = w' from (HEV.out.drewN q).b 1 (by decide)))
      have r11 := bA_rng s 1
      rw [← hb1] at HQ1 HPP r11
      clear hb1
      obtain ⟨r1a, r1b⟩ := r11
      go_wp2_with (go_at_call 29; refine B0.out.mono ?_; rintro e w' ⟨rfl, rfl⟩)
      have mb0_32 := tmod_pos b0 32 r00 (by decide)
      have mb1_64 := tmod_rng b1 64 (by decide)
      have w0 : IntKind.i64.wrap (b0.tmod 32 * 64) = b0.tmod 32 * 64 := IntWalk.i64_in _ (by omega)
      have w1 : IntKind.i64.wrap (b0.tmod 32 * 64 + b1.tmod 64) = b0.tmod 32 * 64 + b1.tmod 64 := IntWalk.i64_in _ (by omega)
      clear mb0_32 mb1_64
      go_quiet ((first | ((with_reducible refine Calls.mono (HQ0.out _) ?_); exact fun e w' h => ⟨h.1, _, h.2.symm⟩) | ((with_reducible refine Calls.mono (HQ1.out _) ?_); exact fun e w' h => ⟨h.1, _, h.2.symm⟩)))
      clear w0 w1
      obtain ⟨W2, hW2⟩ : ∃ W2, W2 = W.drewN nq := ⟨_, rfl⟩
      have HB2 := Lib.hid (below_drewN HBW.out nq)
      have HE2 := Lib.hid (HEV.out.drewN nq)
      rw [← hW2] at HB2 HE2 ⊢
      clear hW2
      have f0 := HE2.out.c0
      go_wp2_with fail
      clear f0
      obtain ⟨P, hP⟩ : ∃ P, P = standP 1 (bytL s) := ⟨_, rfl⟩
      rw [← hP] at HPP HC
      have mb0_32 := tmod_pos b0 32 r00 (by decide)
      have mb1_64 := tmod_rng b1 64 (by decide)
      have em0 : b0.tmod 32 = b0 % 32 := Int.tmod_eq_emod_of_nonneg r00
      have HEX := Lib.hid (show wrap64 (b0 % 32 * 64 + b1.tmod 64) = P from by
        rw [HPP.out, em0, IntWalk.wrap64_in (b0 % 32 * 64 + b1.tmod 64) ⟨by omega, by omega⟩])
      clear em0 mb0_32 mb1_64
      rw [HEX.out]
      clear hP e0 e1 e2 e3
      have f0 := HE2.out.c0
      have f3 := HE2.out.c3
      cases hsc : scalarB 1 P
      · have HS := Lib.hid hsc
        clear hsc
        have HFIN := Lib.hid (show StandP w 1 s (.returned (.tuple #[.int .i64 (-1), .int .i64 0])) W2 from ⟨-1, 0, rfl, HB2.out, Lib.hid fun c k1 k2 => by
          have e := HS.out
          rw [HC.out c k1 k2, scalarB_eq, (scalB_iff 1 c).2 k2] at e
          cases e⟩)
        refine (isScalar_any 1 P _).mono ?_
        rintro e w' ⟨rfl, rfl⟩
        rw [HS.out]
        go_wp2_with fail
        go_ret2
        exact HFIN.out
      · have HS := Lib.hid hsc
        obtain ⟨q1, q2, q3, _⟩ := scalar_bounds hsc
        have Q3 := Lib.hid q3
        clear hsc q3
        refine (isScalar_any 1 P _).mono ?_
        rintro e w' ⟨rfl, rfl⟩
        rw [HS.out]
        go_wp2_with fail
        refine (bytesOf_any 1 P _ (by decide) q1 q2 Q3.out).mono ?_
        rintro e w3 ⟨A1, n1, c1, rfl, hown1, hb1⟩
        have hl1 := own_ints_len hown1
        have hn1 : n1 ≤ 4 := by rw [hl1]; exact bytesOf_len _ _
        have HCC := Lib.hid (fun c (k1 : bytL s = codeE 1 c) (k2 : ScalE 1 c) => (show bytesOf 1 P = bytL s by rw [HC.out c k1 k2, bytesOf_code k2, k1]))
        have HR3 := Lib.hid (Rds.of_own hown1)
        have HE3 := Lib.hid (HE2.out.below hb1)
        have HB3 := Lib.hid (HB2.out.trans (hb1.mono HB2.out.size))
        obtain ⟨L, hL⟩ : ∃ L, L = bytesOf 1 P := ⟨_, rfl⟩
        rw [← hL] at hl1 HCC HR3
        have HLL := Lib.hid hl1
        clear hown1 hb1 hl1 hL
        clear f0 f3
        have f3 := HE3.out.c3
        go_wp2_with fail
        clear f3
        go_loopw [12] (fun i wr => ∃ k : Nat, i = .int .i64 (k : Int) ∧ k ≤ n1 ∧ Hid (Rds wr wr.heap.size 1 A1 n1 (ints L)) ∧ Hid (SEnv wr w.heap.size 1 s) ∧ Hid (Below w.heap.size w wr)) (fun i _ => n1 - (intOf i).toNat)
        case atStart => exact ⟨0, by go_num, by omega, HR3, HE3, HB3⟩
        case round =>
          obtain ⟨k, rfl, hk, HR, HE, HB⟩ := hrel
          by_cases hkn : k < n1
          · have hkn' : (k : Int) < (n1 : Int) := by omega
            have hk0 : (0 : Int) ≤ (k : Int) := by omega
            obtain ⟨b9, o9, hkl, hA, hb9, hcell⟩ := HR.out.int_at hkn
            subst hA
            have BK := Lib.hid (fun q => (HE.out.drewN q).b k (by omega))
            have HM := Lib.hid (fun (hne : ¬ bA s k = L[k]) c (k1 : bytL s = codeE 1 c) (k2 : ScalE 1 c) => (show False from hne (by
              have e := HCC.out c k1 k2
              rw [bA_at, bAt, List.getD_eq_getElem?_getD, ← e, List.getElem?_eq_getElem hkl]; rfl)))
            obtain ⟨x, hx⟩ : ∃ x, x = L[k] := ⟨_, rfl⟩
            obtain ⟨z, hz⟩ : ∃ z, z = bA s k := ⟨_, rfl⟩
            rw [← hx] at hcell HM
            rw [← hz] at BK HM
            clear hx hz
            have f3 := HE.out.c3
            go_wp2_with fail
            go_quiet ((exact (BK.out _).mono fun e w' h => ⟨h.1, _, h.2.symm⟩))
            have HRq := Lib.hid (HR.out.drewN nq)
            have HEq := Lib.hid (HE.out.drewN nq)
            have HBq := Lib.hid (below_drewN HB.out nq)
            by_cases hzx : z = x
            · have hzb : (z != x) = false := by simp [hzx]
              clear hzx
              go_wp2_with fail
              go_roundw
              case rel => exact ⟨k + 1, by go_num, by omega, HRq, HEq, HBq⟩
              case measure => simp only [intOf]; omega
            · have hzb : (z != x) = true := by simp [hzx]
              have HM2 := Lib.hid (HM.out hzx)
              clear hzx
              have HFIN := Lib.hid (show StandP w 1 s (.returned (.tuple #[.int .i64 (-1), .int .i64 0])) (wr.drewN nq) from ⟨-1, 0, rfl, HBq.out, Lib.hid fun c k1 k2 => (HM2.out c k1 k2).elim⟩)
              go_wp2_with fail
              go_ret2
              exact HFIN.out
          · have hkn' : ¬ (k : Int) < (n1 : Int) := by omega
            have HFIN := Lib.hid (show StandP w 1 s (.returned (.tuple #[.int .i64 P, .int .i64 (n1 : Int)])) wr from ⟨P, n1, rfl, HB.out, Lib.hid fun c k1 k2 => ⟨HC.out c k1 k2, by rw [HLL.out, HCC.out c k1 k2, bytL_len]⟩⟩)
            go_wp2_with fail
            go_ret2
            exact HFIN.out
    · by_cases h3 : b0 < 240
      · have HPP := Lib.hid (show standP 1 (bytL s) = b0.tmod 16 * 4096 + (bA s 1).tmod 64 * 64 + (bA s 2).tmod 64 by rw [HP.out, if_neg h1, if_neg h2, if_pos h3])
        clear HP
        obtain ⟨b1, hb1⟩ : ∃ b1, b1 = bA s 1 := ⟨_, rfl⟩
        have HQ1 := Lib.hid (fun q => (show Calls Try.prog 29 #[.int .i64 1, .pointer (some ⟨w.heap.size + 1 + 1, 0, none⟩), .pointer (some ⟨w.heap.size + 1, 0, none⟩)] (W.drewN q) fun e w' => e = .returned (.int .i64 (bA s 1)) ∧ W.drewN q = w' from (HEV.out.drewN q).b 1 (by decide)))
        have r11 := bA_rng s 1
        rw [← hb1] at HQ1 HPP r11
        clear hb1
        obtain ⟨r1a, r1b⟩ := r11
        obtain ⟨b2, hb2⟩ : ∃ b2, b2 = bA s 2 := ⟨_, rfl⟩
        have HQ2 := Lib.hid (fun q => (show Calls Try.prog 29 #[.int .i64 2, .pointer (some ⟨w.heap.size + 1 + 1, 0, none⟩), .pointer (some ⟨w.heap.size + 1, 0, none⟩)] (W.drewN q) fun e w' => e = .returned (.int .i64 (bA s 2)) ∧ W.drewN q = w' from (HEV.out.drewN q).b 2 (by decide)))
        have r12 := bA_rng s 2
        rw [← hb2] at HQ2 HPP r12
        clear hb2
        obtain ⟨r2a, r2b⟩ := r12
        go_wp2_with (go_at_call 29; refine B0.out.mono ?_; rintro e w' ⟨rfl, rfl⟩)
        have mb0_16 := tmod_pos b0 16 r00 (by decide)
        have mb1_64 := tmod_rng b1 64 (by decide)
        have mb2_64 := tmod_rng b2 64 (by decide)
        have w0 : IntKind.i64.wrap (b0.tmod 16 * 4096) = b0.tmod 16 * 4096 := IntWalk.i64_in _ (by omega)
        have w1 : IntKind.i64.wrap (b1.tmod 64 * 64) = b1.tmod 64 * 64 := IntWalk.i64_in _ (by omega)
        have w2 : IntKind.i64.wrap (b0.tmod 16 * 4096 + b1.tmod 64 * 64) = b0.tmod 16 * 4096 + b1.tmod 64 * 64 := IntWalk.i64_in _ (by omega)
        have w3 : IntKind.i64.wrap (b0.tmod 16 * 4096 + b1.tmod 64 * 64 + b2.tmod 64) = b0.tmod 16 * 4096 + b1.tmod 64 * 64 + b2.tmod 64 := IntWalk.i64_in _ (by omega)
        clear mb0_16 mb1_64 mb2_64
        go_quiet ((first | ((with_reducible refine Calls.mono (HQ0.out _) ?_); exact fun e w' h => ⟨h.1, _, h.2.symm⟩) | ((with_reducible refine Calls.mono (HQ1.out _) ?_); exact fun e w' h => ⟨h.1, _, h.2.symm⟩) | ((with_reducible refine Calls.mono (HQ2.out _) ?_); exact fun e w' h => ⟨h.1, _, h.2.symm⟩)))
        clear w0 w1 w2 w3
        obtain ⟨W2, hW2⟩ : ∃ W2, W2 = W.drewN nq := ⟨_, rfl⟩
        have HB2 := Lib.hid (below_drewN HBW.out nq)
        have HE2 := Lib.hid (HEV.out.drewN nq)
        rw [← hW2] at HB2 HE2 ⊢
        clear hW2
        have f0 := HE2.out.c0
        go_wp2_with fail
        clear f0
        obtain ⟨P, hP⟩ : ∃ P, P = standP 1 (bytL s) := ⟨_, rfl⟩
        rw [← hP] at HPP HC
        have mb0_16 := tmod_pos b0 16 r00 (by decide)
        have mb1_64 := tmod_rng b1 64 (by decide)
        have mb2_64 := tmod_rng b2 64 (by decide)
        have em0 : b0.tmod 16 = b0 % 16 := Int.tmod_eq_emod_of_nonneg r00
        have HEX := Lib.hid (show wrap64 (wrap64 (b0 % 16 * 4096 + b1.tmod 64 * 64) + b2.tmod 64) = P from by
          rw [HPP.out, em0, IntWalk.wrap64_in (b0 % 16 * 4096 + b1.tmod 64 * 64) ⟨by omega, by omega⟩, IntWalk.wrap64_in (b0 % 16 * 4096 + b1.tmod 64 * 64 + b2.tmod 64) ⟨by omega, by omega⟩])
        clear em0 mb0_16 mb1_64 mb2_64
        rw [HEX.out]
        clear hP e0 e1 e2 e3
        have f0 := HE2.out.c0
        have f3 := HE2.out.c3
        cases hsc : scalarB 1 P
        · have HS := Lib.hid hsc
          clear hsc
          have HFIN := Lib.hid (show StandP w 1 s (.returned (.tuple #[.int .i64 (-1), .int .i64 0])) W2 from ⟨-1, 0, rfl, HB2.out, Lib.hid fun c k1 k2 => by
            have e := HS.out
            rw [HC.out c k1 k2, scalarB_eq, (scalB_iff 1 c).2 k2] at e
            cases e⟩)
          refine (isScalar_any 1 P _).mono ?_
          rintro e w' ⟨rfl, rfl⟩
          rw [HS.out]
          go_wp2_with fail
          go_ret2
          exact HFIN.out
        · have HS := Lib.hid hsc
          obtain ⟨q1, q2, q3, _⟩ := scalar_bounds hsc
          have Q3 := Lib.hid q3
          clear hsc q3
          refine (isScalar_any 1 P _).mono ?_
          rintro e w' ⟨rfl, rfl⟩
          rw [HS.out]
          go_wp2_with fail
          refine (bytesOf_any 1 P _ (by decide) q1 q2 Q3.out).mono ?_
          rintro e w3 ⟨A1, n1, c1, rfl, hown1, hb1⟩
          have hl1 := own_ints_len hown1
          have hn1 : n1 ≤ 4 := by rw [hl1]; exact bytesOf_len _ _
          have HCC := Lib.hid (fun c (k1 : bytL s = codeE 1 c) (k2 : ScalE 1 c) => (show bytesOf 1 P = bytL s by rw [HC.out c k1 k2, bytesOf_code k2, k1]))
          have HR3 := Lib.hid (Rds.of_own hown1)
          have HE3 := Lib.hid (HE2.out.below hb1)
          have HB3 := Lib.hid (HB2.out.trans (hb1.mono HB2.out.size))
          obtain ⟨L, hL⟩ : ∃ L, L = bytesOf 1 P := ⟨_, rfl⟩
          rw [← hL] at hl1 HCC HR3
          have HLL := Lib.hid hl1
          clear hown1 hb1 hl1 hL
          clear f0 f3
          have f3 := HE3.out.c3
          go_wp2_with fail
          clear f3
          go_loopw [12] (fun i wr => ∃ k : Nat, i = .int .i64 (k : Int) ∧ k ≤ n1 ∧ Hid (Rds wr wr.heap.size 1 A1 n1 (ints L)) ∧ Hid (SEnv wr w.heap.size 1 s) ∧ Hid (Below w.heap.size w wr)) (fun i _ => n1 - (intOf i).toNat)
          case atStart => exact ⟨0, by go_num, by omega, HR3, HE3, HB3⟩
          case round =>
            obtain ⟨k, rfl, hk, HR, HE, HB⟩ := hrel
            by_cases hkn : k < n1
            · have hkn' : (k : Int) < (n1 : Int) := by omega
              have hk0 : (0 : Int) ≤ (k : Int) := by omega
              obtain ⟨b9, o9, hkl, hA, hb9, hcell⟩ := HR.out.int_at hkn
              subst hA
              have BK := Lib.hid (fun q => (HE.out.drewN q).b k (by omega))
              have HM := Lib.hid (fun (hne : ¬ bA s k = L[k]) c (k1 : bytL s = codeE 1 c) (k2 : ScalE 1 c) => (show False from hne (by
                have e := HCC.out c k1 k2
                rw [bA_at, bAt, List.getD_eq_getElem?_getD, ← e, List.getElem?_eq_getElem hkl]; rfl)))
              obtain ⟨x, hx⟩ : ∃ x, x = L[k] := ⟨_, rfl⟩
              obtain ⟨z, hz⟩ : ∃ z, z = bA s k := ⟨_, rfl⟩
              rw [← hx] at hcell HM
              rw [← hz] at BK HM
              clear hx hz
              have f3 := HE.out.c3
              go_wp2_with fail
              go_quiet ((exact (BK.out _).mono fun e w' h => ⟨h.1, _, h.2.symm⟩))
              have HRq := Lib.hid (HR.out.drewN nq)
              have HEq := Lib.hid (HE.out.drewN nq)
              have HBq := Lib.hid (below_drewN HB.out nq)
              by_cases hzx : z = x
              · have hzb : (z != x) = false := by simp [hzx]
                clear hzx
                go_wp2_with fail
                go_roundw
                case rel => exact ⟨k + 1, by go_num, by omega, HRq, HEq, HBq⟩
                case measure => simp only [intOf]; omega
              · have hzb : (z != x) = true := by simp [hzx]
                have HM2 := Lib.hid (HM.out hzx)
                clear hzx
                have HFIN := Lib.hid (show StandP w 1 s (.returned (.tuple #[.int .i64 (-1), .int .i64 0])) (wr.drewN nq) from ⟨-1, 0, rfl, HBq.out, Lib.hid fun c k1 k2 => (HM2.out c k1 k2).elim⟩)
                go_wp2_with fail
                go_ret2
                exact HFIN.out
            · have hkn' : ¬ (k : Int) < (n1 : Int) := by omega
              have HFIN := Lib.hid (show StandP w 1 s (.returned (.tuple #[.int .i64 P, .int .i64 (n1 : Int)])) wr from ⟨P, n1, rfl, HB.out, Lib.hid fun c k1 k2 => ⟨HC.out c k1 k2, by rw [HLL.out, HCC.out c k1 k2, bytL_len]⟩⟩)
              go_wp2_with fail
              go_ret2
              exact HFIN.out
      · have HPP := Lib.hid (show standP 1 (bytL s) = b0.tmod 8 * 262144 + (bA s 1).tmod 64 * 4096 + (bA s 2).tmod 64 * 64 + (bA s 3).tmod 64 by rw [HP.out, if_neg h1, if_neg h2, if_neg h3])
        clear HP
        obtain ⟨b1, hb1⟩ : ∃ b1, b1 = bA s 1 := ⟨_, rfl⟩
        have HQ1 := Lib.hid (fun q => (show Calls Try.prog 29 #[.int .i64 1, .pointer (some ⟨w.heap.size + 1 + 1, 0, none⟩), .pointer (some ⟨w.heap.size + 1, 0, none⟩)] (W.drewN q) fun e w' => e = .returned (.int .i64 (bA s 1)) ∧ W.drewN q = w' from (HEV.out.drewN q).b 1 (by decide)))
        have r11 := bA_rng s 1
        rw [← hb1] at HQ1 HPP r11
        clear hb1
        obtain ⟨r1a, r1b⟩ := r11
        obtain ⟨b2, hb2⟩ : ∃ b2, b2 = bA s 2 := ⟨_, rfl⟩
        have HQ2 := Lib.hid (fun q => (show Calls Try.prog 29 #[.int .i64 2, .pointer (some ⟨w.heap.size + 1 + 1, 0, none⟩), .pointer (some ⟨w.heap.size + 1, 0, none⟩)] (W.drewN q) fun e w' => e = .returned (.int .i64 (bA s 2)) ∧ W.drewN q = w' from (HEV.out.drewN q).b 2 (by decide)))
        have r12 := bA_rng s 2
        rw [← hb2] at HQ2 HPP r12
        clear hb2
        obtain ⟨r2a, r2b⟩ := r12
        obtain ⟨b3, hb3⟩ : ∃ b3, b3 = bA s 3 := ⟨_, rfl⟩
        have HQ3 := Lib.hid (fun q => (show Calls Try.prog 29 #[.int .i64 3, .pointer (some ⟨w.heap.size + 1 + 1, 0, none⟩), .pointer (some ⟨w.heap.size + 1, 0, none⟩)] (W.drewN q) fun e w' => e = .returned (.int .i64 (bA s 3)) ∧ W.drewN q = w' from (HEV.out.drewN q).b 3 (by decide)))
        have r13 := bA_rng s 3
        rw [← hb3] at HQ3 HPP r13
        clear hb3
        obtain ⟨r3a, r3b⟩ := r13
        go_wp2_with (go_at_call 29; refine B0.out.mono ?_; rintro e w' ⟨rfl, rfl⟩)
        have mb0_8 := tmod_pos b0 8 r00 (by decide)
        have mb1_64 := tmod_rng b1 64 (by decide)
        have mb2_64 := tmod_rng b2 64 (by decide)
        have mb3_64 := tmod_rng b3 64 (by decide)
        have w0 : IntKind.i64.wrap (b0.tmod 8 * 262144) = b0.tmod 8 * 262144 := IntWalk.i64_in _ (by omega)
        have w1 : IntKind.i64.wrap (b1.tmod 64 * 4096) = b1.tmod 64 * 4096 := IntWalk.i64_in _ (by omega)
        have w2 : IntKind.i64.wrap (b0.tmod 8 * 262144 + b1.tmod 64 * 4096) = b0.tmod 8 * 262144 + b1.tmod 64 * 4096 := IntWalk.i64_in _ (by omega)
        have w3 : IntKind.i64.wrap (b2.tmod 64 * 64) = b2.tmod 64 * 64 := IntWalk.i64_in _ (by omega)
        have w4 : IntKind.i64.wrap (b0.tmod 8 * 262144 + b1.tmod 64 * 4096 + b2.tmod 64 * 64) = b0.tmod 8 * 262144 + b1.tmod 64 * 4096 + b2.tmod 64 * 64 := IntWalk.i64_in _ (by omega)
        have w5 : IntKind.i64.wrap (b0.tmod 8 * 262144 + b1.tmod 64 * 4096 + b2.tmod 64 * 64 + b3.tmod 64) = b0.tmod 8 * 262144 + b1.tmod 64 * 4096 + b2.tmod 64 * 64 + b3.tmod 64 := IntWalk.i64_in _ (by omega)
        clear mb0_8 mb1_64 mb2_64 mb3_64
        go_quiet ((first | ((with_reducible refine Calls.mono (HQ0.out _) ?_); exact fun e w' h => ⟨h.1, _, h.2.symm⟩) | ((with_reducible refine Calls.mono (HQ1.out _) ?_); exact fun e w' h => ⟨h.1, _, h.2.symm⟩) | ((with_reducible refine Calls.mono (HQ2.out _) ?_); exact fun e w' h => ⟨h.1, _, h.2.symm⟩) | ((with_reducible refine Calls.mono (HQ3.out _) ?_); exact fun e w' h => ⟨h.1, _, h.2.symm⟩)))
        clear w0 w1 w2 w3 w4 w5
        obtain ⟨W2, hW2⟩ : ∃ W2, W2 = W.drewN nq := ⟨_, rfl⟩
        have HB2 := Lib.hid (below_drewN HBW.out nq)
        have HE2 := Lib.hid (HEV.out.drewN nq)
        rw [← hW2] at HB2 HE2 ⊢
        clear hW2
        have f0 := HE2.out.c0
        go_wp2_with fail
        clear f0
        obtain ⟨P, hP⟩ : ∃ P, P = standP 1 (bytL s) := ⟨_, rfl⟩
        rw [← hP] at HPP HC
        have mb0_8 := tmod_pos b0 8 r00 (by decide)
        have mb1_64 := tmod_rng b1 64 (by decide)
        have mb2_64 := tmod_rng b2 64 (by decide)
        have mb3_64 := tmod_rng b3 64 (by decide)
        have em0 : b0.tmod 8 = b0 % 8 := Int.tmod_eq_emod_of_nonneg r00
        have HEX := Lib.hid (show wrap64 (wrap64 (wrap64 (b0 % 8 * 262144 + b1.tmod 64 * 4096) + b2.tmod 64 * 64) + b3.tmod 64) = P from by
          rw [HPP.out, em0, IntWalk.wrap64_in (b0 % 8 * 262144 + b1.tmod 64 * 4096) ⟨by omega, by omega⟩, IntWalk.wrap64_in (b0 % 8 * 262144 + b1.tmod 64 * 4096 + b2.tmod 64 * 64) ⟨by omega, by omega⟩, IntWalk.wrap64_in (b0 % 8 * 262144 + b1.tmod 64 * 4096 + b2.tmod 64 * 64 + b3.tmod 64) ⟨by omega, by omega⟩])
        clear em0 mb0_8 mb1_64 mb2_64 mb3_64
        rw [HEX.out]
        clear hP e0 e1 e2 e3
        have f0 := HE2.out.c0
        have f3 := HE2.out.c3
        cases hsc : scalarB 1 P
        · have HS := Lib.hid hsc
          clear hsc
          have HFIN := Lib.hid (show StandP w 1 s (.returned (.tuple #[.int .i64 (-1), .int .i64 0])) W2 from ⟨-1, 0, rfl, HB2.out, Lib.hid fun c k1 k2 => by
            have e := HS.out
            rw [HC.out c k1 k2, scalarB_eq, (scalB_iff 1 c).2 k2] at e
            cases e⟩)
          refine (isScalar_any 1 P _).mono ?_
          rintro e w' ⟨rfl, rfl⟩
          rw [HS.out]
          go_wp2_with fail
          go_ret2
          exact HFIN.out
        · have HS := Lib.hid hsc
          obtain ⟨q1, q2, q3, _⟩ := scalar_bounds hsc
          have Q3 := Lib.hid q3
          clear hsc q3
          refine (isScalar_any 1 P _).mono ?_
          rintro e w' ⟨rfl, rfl⟩
          rw [HS.out]
          go_wp2_with fail
          refine (bytesOf_any 1 P _ (by decide) q1 q2 Q3.out).mono ?_
          rintro e w3 ⟨A1, n1, c1, rfl, hown1, hb1⟩
          have hl1 := own_ints_len hown1
          have hn1 : n1 ≤ 4 := by rw [hl1]; exact bytesOf_len _ _
          have HCC := Lib.hid (fun c (k1 : bytL s = codeE 1 c) (k2 : ScalE 1 c) => (show bytesOf 1 P = bytL s by rw [HC.out c k1 k2, bytesOf_code k2, k1]))
          have HR3 := Lib.hid (Rds.of_own hown1)
          have HE3 := Lib.hid (HE2.out.below hb1)
          have HB3 := Lib.hid (HB2.out.trans (hb1.mono HB2.out.size))
          obtain ⟨L, hL⟩ : ∃ L, L = bytesOf 1 P := ⟨_, rfl⟩
          rw [← hL] at hl1 HCC HR3
          have HLL := Lib.hid hl1
          clear hown1 hb1 hl1 hL
          clear f0 f3
          have f3 := HE3.out.c3
          go_wp2_with fail
          clear f3
          go_loopw [12] (fun i wr => ∃ k : Nat, i = .int .i64 (k : Int) ∧ k ≤ n1 ∧ Hid (Rds wr wr.heap.size 1 A1 n1 (ints L)) ∧ Hid (SEnv wr w.heap.size 1 s) ∧ Hid (Below w.heap.size w wr)) (fun i _ => n1 - (intOf i).toNat)
          case atStart => exact ⟨0, by go_num, by omega, HR3, HE3, HB3⟩
          case round =>
            obtain ⟨k, rfl, hk, HR, HE, HB⟩ := hrel
            by_cases hkn : k < n1
            · have hkn' : (k : Int) < (n1 : Int) := by omega
              have hk0 : (0 : Int) ≤ (k : Int) := by omega
              obtain ⟨b9, o9, hkl, hA, hb9, hcell⟩ := HR.out.int_at hkn
              subst hA
              have BK := Lib.hid (fun q => (HE.out.drewN q).b k (by omega))
              have HM := Lib.hid (fun (hne : ¬ bA s k = L[k]) c (k1 : bytL s = codeE 1 c) (k2 : ScalE 1 c) => (show False from hne (by
                have e := HCC.out c k1 k2
                rw [bA_at, bAt, List.getD_eq_getElem?_getD, ← e, List.getElem?_eq_getElem hkl]; rfl)))
              obtain ⟨x, hx⟩ : ∃ x, x = L[k] := ⟨_, rfl⟩
              obtain ⟨z, hz⟩ : ∃ z, z = bA s k := ⟨_, rfl⟩
              rw [← hx] at hcell HM
              rw [← hz] at BK HM
              clear hx hz
              have f3 := HE.out.c3
              go_wp2_with fail
              go_quiet ((exact (BK.out _).mono fun e w' h => ⟨h.1, _, h.2.symm⟩))
              have HRq := Lib.hid (HR.out.drewN nq)
              have HEq := Lib.hid (HE.out.drewN nq)
              have HBq := Lib.hid (below_drewN HB.out nq)
              by_cases hzx : z = x
              · have hzb : (z != x) = false := by simp [hzx]
                clear hzx
                go_wp2_with fail
                go_roundw
                case rel => exact ⟨k + 1, by go_num, by omega, HRq, HEq, HBq⟩
                case measure => simp only [intOf]; omega
              · have hzb : (z != x) = true := by simp [hzx]
                have HM2 := Lib.hid (HM.out hzx)
                clear hzx
                have HFIN := Lib.hid (show StandP w 1 s (.returned (.tuple #[.int .i64 (-1), .int .i64 0])) (wr.drewN nq) from ⟨-1, 0, rfl, HBq.out, Lib.hid fun c k1 k2 => (HM2.out c k1 k2).elim⟩)
                go_wp2_with fail
                go_ret2
                exact HFIN.out
            · have hkn' : ¬ (k : Int) < (n1 : Int) := by omega
              have HFIN := Lib.hid (show StandP w 1 s (.returned (.tuple #[.int .i64 P, .int .i64 (n1 : Int)])) wr from ⟨P, n1, rfl, HB.out, Lib.hid fun c k1 k2 => ⟨HC.out c k1 k2, by rw [HLL.out, HCC.out c k1 k2, bytL_len]⟩⟩)
              go_wp2_with fail
              go_ret2
              exact HFIN.out
end Go.Proofs.Ytihodjfnhkihiaa
