/- RestSets: walked. No condition but that the lengths are ones that can be read. -/
import Derived.Test.YtpdcbddofekbcaaGreatRstA
import Derived.Test.YtpdcbddofekbcaaGreatSplE
import Derived.Laws.StructEq
namespace Go.Proofs.YtpdcbddofekbcaaGreat
open Go.RowKit
set_option linter.unusedVariables false
theorem sameS_refl (a : List (Int × Int)) : sameS a a = true := by simp [sameS]
set_option maxRecDepth 100000 in
set_option maxHeartbeats 16000000 in
theorem lawRest (a b : List (Int × Int)) (enc : Int) (A B : Option Addr) (n c m d : Nat) (w : World) (hnc : n ≤ c) (hc : c ≤ maxLen) (hmd : m ≤ d) (hd : d ≤ maxLen) (hns : n ≤ 8796093021952) (hms : m ≤ 8796093021952) (ha : Rds w w.heap.size 2 A n (rngs a)) (hb : Rds w w.heap.size 2 B m (rngs b)) :
    Calls Tryz.prog 3 #[.slice A n c, .slice B m d, .int .i64 enc] w fun e w' => e = .returned (.bool true) ∧ Below w.heap.size w w' := by
  have HA := Lib.hid ha
  have HB := Lib.hid hb
  have HLA := Lib.hid ha.rngs_len
  clear ha hb
  go_enter Tryz.func3, Tryz.ntmps3
  go_wp2_with fail
  refine (setBegun29 w).mono ?_
  rintro e w1 ⟨rfl, hb1⟩
  have HB1 := Lib.hid hb1
  clear hb1
  go_wp2_with fail
  refine (splitBegun49 w1).mono ?_
  rintro e w2 ⟨rfl, hb2⟩
  have HB2 := Lib.hid (HB1.out.trans (hb2.mono HB1.out.size))
  have HA2 := Lib.hid (HA.out.next HB2.out)
  have HBB2 := Lib.hid (HB.out.next HB2.out)
  clear hb2 HB1
  have HN0 := Lib.hid (own_new w2 w2.heap.size 25 2 0 #[] (Nat.le_refl _) rfl (by decide))
  have HBN := Lib.hid (show Below w2.heap.size w2 (w2.alloc (.cells #[] 25)) by go_grown)
  have HA3 := Lib.hid (HA2.out.next HBN.out)
  go_wp2_with (at_builtin; first
    | (refine app_rngsB (.tmp 28) (.tmp 29) (base := w2.heap.size) (xs := []) (n := 0) HN0.out HA3.out (by omega) (by simp) rfl rfl rfl rfl ?_; intro v3 w3 hown3 hg3 hat3
       rw [Nat.zero_add, List.nil_append] at hown3
       obtain ⟨A3, c3, hv3, q1, q2⟩ := own_slice hown3
       subst hv3
       have HO3 := Lib.hid hown3
       have HB3 := Lib.hid (show Below w2.heap.size w2 w3 from grown_own HBN.out HN0.out hg3 (Nat.le_refl _) (by simp))
       clear hown3 hg3 hat3)
    | (refine app_rngsB (.tmp 30) (.tmp 32) (base := w2.heap.size) (xs := a) (ys := [(1, 2)]) (n := n) (HO3.out.alloc _) (Rds.new w3 2 1 #[.int .i64 1, .int .i64 2] 25 (rngs [(1, 2)]) rfl rfl) (by omega) (by have := HB3.out.size; simp; omega) rfl rfl rfl rfl ?_; intro v4 w4 hown4 hg4 hat4
       obtain ⟨g4, c4, hv4, hge4, hlt4⟩ := hown4.form (by omega)
       subst hv4
       have hnc4 : n + 1 ≤ c4 := by obtain ⟨_, _, hv, q3, q4⟩ := own_slice hown4; injection hv with _ _ e; omega
       have hc4m : c4 ≤ maxLen := by obtain ⟨_, _, hv, q3, q4⟩ := own_slice hown4; injection hv with _ _ e; omega
       have HC4 := Lib.hid hc4m
       unfold maxLen at hc4m
       have HO4 := Lib.hid hown4
       have HB4 := Lib.hid (show Below w2.heap.size w2 w4 from grown_own (HB3.out.alloc HB3.out.size _) (HO3.out.alloc _) hg4 (Nat.le_refl _) (by have := HB3.out.size; simp; omega))
       have HN5 := Lib.hid (own_new w4 w4.heap.size 25 2 0 #[] (Nat.le_refl _) rfl (by decide))
       have HB5 := Lib.hid (HBB2.out.next (HB4.out.trans (show Below w2.heap.size w4 (w4.alloc (.cells #[] 25)) from (show Below w4.heap.size w4 (w4.alloc (.cells #[] 25)) by go_grown).mono HB4.out.size)))
       clear hown4 hg4 hat4)
    | (refine app_rngsB (.tmp 38) (.tmp 39) (base := w4.heap.size) (xs := []) (n := 0) HN5.out HB5.out (by omega) (by simp) rfl rfl rfl rfl ?_; intro v6 w6 hown6 hg6 hat6))
  rw [Nat.zero_add, List.nil_append] at hown6
  obtain ⟨A6, c6, hv6, q5, q6⟩ := own_slice hown6
  subst hv6
  have HO6 := Lib.hid hown6
  have HX6 := Lib.hid (own_kept (HO4.out.alloc (.cells #[] 25)) hg6 (fun g k1 k2 => by have h := (HO4.out.lt g k2).2; have e : w4.heap.size = g := Option.some.inj k1; omega))
  have HB6 := Lib.hid (show Below w2.heap.size w2 w6 from grown_own (HB4.out.alloc HB4.out.size _) HN5.out hg6 HB4.out.size (by simp))
  clear hown6 hg6 hat6
  have HW0 := Lib.hid (HB2.out.trans (HB6.out.mono HB2.out.size))
  have HA6 := Lib.hid (HA2.out.next HB6.out)
  have HBB6 := Lib.hid (HBB2.out.next HB6.out)
  have HC6 := Lib.hid q6
  have HNC6 := Lib.hid q5
  clear HB2 HB3 HB4 HB6 HA2 HA3 HBB2 HB5 HN0 HN5 HBN HO3 HO4 q1 q2 q6
  go_wp2_with fail
  go_loopw [10] (fun i wr => ∃ k : Nat, i = .int .i64 (k : Int) ∧ k ≤ 2 ∧ Hid (Below w6.heap.size w6 wr)) (fun i _ => (2 - intOf i).toNat)
  case atStart => exact ⟨0, by go_num, by omega, Lib.hid (Below.refl _ _)⟩
  case round =>
    obtain ⟨k, rfl, hk2, HBR⟩ := hrel
    obtain ⟨wrr, hwrr⟩ : ∃ W, W = wr := ⟨_, rfl⟩
    rw [← hwrr] at HBR ⊢
    clear hwrr
    by_cases hk : k < 2
    · have hk' : (k : Int) < 2 := by omega
      have HXr := Lib.hid (own_below HX6.out HBR.out (Nat.le_refl _))
      have RX := Lib.hid (show Rds wrr wrr.heap.size 2 (some ⟨g4, 0, none⟩) n (rngs a) from by
        have h := (Rds.of_own HXr.out).first (k := n) (Nat.le_succ n)
        have hl := HLA.out
        rw [rngs_append, List.take_append_of_le_length (by rw [rngs_length]; omega), List.take_of_length_le (by rw [rngs_length]; omega)] at h
        exact h)
      have RY := Lib.hid (Rds.of_own (own_below HO6.out HBR.out (Nat.le_refl _)))
      have RA := Lib.hid (HA6.out.next HBR.out)
      have RB := Lib.hid (HBB6.out.next HBR.out)
      have HNM := Lib.hid (show n ≤ maxLen by unfold maxLen; omega)
      have HMM := Lib.hid (show m ≤ maxLen by unfold maxLen; omega)
      have HNC := Lib.hid hnc
      have hn4 : n ≤ c4 := by omega
      go_wp2_with fail
      refine (union39 a b (some ⟨g4, 0, none⟩) A6 n c4 m c6 wrr hn4 HC4.out HNC6.out HC6.out RX.out RY.out).mono ?_
      rintro e v1 h1
      obtain ⟨o1, A1, m1, k1, x1, rfl, p1, r1, F1, O1, hb1⟩ := opR_with h1
      have K1 := Lib.hid hb1
      have RX1 := Lib.hid (RX.out.next hb1)
      clear h1 hb1
      go_wp2_with fail
      refine (make26 a (rangesE a) rfl (some ⟨g4, 0, none⟩) n c4 v1 HNM.out RX1.out).mono ?_
      rintro e v2 h2
      obtain ⟨o2, A2, m2, k2, x2, rfl, p2, r2, F2, O2, hb2⟩ := opR_raw h2
      have K2 := Lib.hid (K1.out.trans (hb2.mono K1.out.size))
      have L2 := Lib.hid hb2
      have RX2 := Lib.hid (RX1.out.next hb2)
      clear h2 hb2 RX1
      go_wp2_with fail
      refine (not31 a (some ⟨g4, 0, none⟩) n c4 v2 hn4 HC4.out RX2.out).mono ?_
      rintro e v3 h3
      obtain ⟨o3, A3', m3, k3, x3, rfl, p3, r3, F3, O3, hb3⟩ := opR_with h3
      have K3 := Lib.hid (K2.out.trans (hb3.mono K2.out.size))
      have L3 := Lib.hid hb3
      have RX3 := Lib.hid (RX2.out.next hb3)
      clear h3 hb3 RX2
      go_wp2_with fail
      refine (fold67 a (some ⟨g4, 0, none⟩) n c4 v3 hn4 HC4.out RX3.out).mono ?_
      rintro e v4 h4
      obtain ⟨o4, A4, m4, k4, x4, rfl, p4, r4, F4, O4, hb4⟩ := opR_with h4
      have K4 := Lib.hid (K3.out.trans (hb4.mono K3.out.size))
      have L4 := Lib.hid hb4
      have RX4 := Lib.hid (RX3.out.next hb4)
      clear h4 hb4 RX3
      go_wp2_with fail
      refine (roads5 enc a (some ⟨g4, 0, none⟩) n c4 v4 hn4 HC4.out RX4.out).mono ?_
      rintro e v5 ⟨ls, A5, m5, k5, vs, rfl, p5, r5, O5, S5, hb5, _, F5⟩
      have K5 := Lib.hid (K4.out.trans (hb5.mono K4.out.size))
      have L5 := Lib.hid hb5
      have L4' := Lib.hid (L4.out.trans (hb5.mono L4.out.size))
      have L3' := Lib.hid (L3.out.trans (L4'.out.mono L3.out.size))
      have L2' := Lib.hid (L2.out.trans (L3'.out.mono L2.out.size))
      clear hb5 RX4
      have I1 := Lib.hid ((OwnI.of O1.out).below L2'.out)
      have I2 := Lib.hid ((OwnI.of O2.out).below L3'.out)
      have I3 := Lib.hid ((OwnI.of O3.out).below L4'.out)
      have I4 := Lib.hid ((OwnI.of O4.out).below L5.out)
      have R1 := Lib.hid ((Rds.of_own O1.out).next L2'.out)
      have R2 := Lib.hid ((Rds.of_own O2.out).next L3'.out)
      have R3 := Lib.hid ((Rds.of_own O3.out).next L4'.out)
      have R4 := Lib.hid ((Rds.of_own O4.out).next L5.out)
      have RX5 := Lib.hid (RX.out.next K5.out)
      have RY5 := Lib.hid (RY.out.next K5.out)
      have RA5 := Lib.hid (RA.out.next K5.out)
      have RB5 := Lib.hid (RB.out.next K5.out)
      have HX5 := Lib.hid (own_below HXr.out K5.out (Nat.le_refl _))
      clear O1 O2 O3 O4 RX RY RA RB HXr
      go_wp2_with fail
      refine (sameS_ a a true (sameS_refl a) (some ⟨g4, 0, none⟩) A n n c4 c v5 HNM.out HNM.out RX5.out RA5.out).mono ?_
      rintro e w7 ⟨rfl, hb7⟩
      have J7 := Lib.hid hb7
      have RY7 := Lib.hid (RY5.out.next hb7)
      have RB7 := Lib.hid (RB5.out.next hb7)
      clear hb7
      go_wp2_with fail
      refine (sameS_ b b true (sameS_refl b) A6 B m m c6 d w7 HMM.out HMM.out RY7.out RB7.out).mono ?_
      rintro e w8 ⟨rfl, hb8⟩
      have J8 := Lib.hid (J7.out.trans (hb8.mono J7.out.size))
      have HX8 := Lib.hid (own_below HX5.out J8.out (Nat.le_refl _))
      obtain ⟨bq, oq, hlq, hAq, hbq, hc1, hd1⟩ := (Rds.of_own HX8.out).rng_at (Nat.lt_succ_self n)
      have el : (a ++ [((1 : Int), (2 : Int))])[n] = (1, 2) := by
        have hl := HLA.out
        rw [List.getElem_append_right (by omega)]
        simp [hl]
      rw [el] at hc1 hd1
      obtain ⟨rfl, rfl⟩ : g4 = bq ∧ 0 = oq := by injection hAq with h; injection h with h1 h2; exact ⟨h1, h2⟩
      rw [Nat.zero_add] at hc1 hd1
      simp only at hc1 hd1
      clear hb8 el RY7 RB7 hAq hlq
      go_upto_region 16 with (fail)
      have J9 := Lib.hid (K5.out.trans (J8.out.mono K5.out.size))
      have G1 := Lib.hid (fun (h : x1 = 0) => chk2_ok (F1.out h).2)
      have U1 := Lib.hid (fun (h : x1 = 0) (W : World) (hW : Below w8.heap.size w8 W) => (show Calls Tryz.prog 12 #[.slice A n c, .slice B m d] W (RefSet W (fun p => mem a p ∨ mem b p) ((n + m) * 2 + 1)) from by
        obtain ⟨ga1, ga2, gb1, gb2⟩ := G1.out h
        have ra := (RA5.out.next J8.out).next hW
        have rb := (RB5.out.next J8.out).next hW
        have la := ra.rngs_len
        have lb := rb.rngs_len
        exact unionOf_any a b A B n c m d W (by omega) hc ga2.1 gb2.1 ra rb))
      have U2 := Lib.hid (fun (h : x2 = 0) (W : World) (hW : Below w8.heap.size w8 W) => (show Calls Tryz.prog 13 #[.slice A n c] W (RefSet W (fun p => mem a p) (n * 2 + 1)) from by
        have g := (F2.out h).2
        have ra := (RA5.out.next J8.out).next hW
        have la := ra.rngs_len
        have gl := (rangesE_ok a).1 g
        exact makeOf_any a A n c W (by omega) hc (by first | exact gl.2 | exact fun r hr => List.all_eq_true.1 gl.2 r hr) ra))
      have U3 := Lib.hid (fun (h : x3 = 0) (W : World) (hW : Below w8.heap.size w8 W) => (show Calls Tryz.prog 14 #[.slice A n c] W (RefSet W (fun p => 0 ≤ p ∧ p ≤ 1114111 ∧ ¬ mem a p) (n * 2 + 1)) from by
        have g := (chk_ok a).1 (F3.out h).2
        have ra := (RA5.out.next J8.out).next hW
        have la := ra.rngs_len
        exact notOf_any a A n c W (by omega) hc g.2.1 ra))
      have U4 := Lib.hid (fun (h : x4 = 0) (W : World) (hW : Below w8.heap.size w8 W) => (show Calls Tryz.prog 15 #[.slice A n c] W (fun e w' => ∃ out, IsSet out (FoldP a) ∧ out.length ≤ 80000 ∧ OwnRngs W out e w') from by
        have g := (chk_ok a).1 (F4.out h).2
        have ra := (RA5.out.next J8.out).next hW
        have la := ra.rngs_len
        exact foldOf68 a A n c W (by omega) hc g.2.1 ra))
      have V1 := Lib.hid (fun (h : x1 = 0) (q : List (Int × Int)) (hq : IsSet q (fun p => mem a p ∨ mem b p)) (AQ : Option Addr) (nq cq : Nat) (W : World) (hW : Below w8.heap.size w8 W) (rq : Rds W W.heap.size 2 AQ nq (rngs q)) (hnq : nq ≤ maxLen) => (show Calls Tryz.prog 11 #[.slice A1 m1 k1, .slice AQ nq cq] W fun e w' => e = .returned (.bool true) ∧ Below W.heap.size W w' from
        sameS_ o1 q true (by rw [(F1.out h).1.eq hq fun p => Iff.rfl]; exact sameS_refl q) A1 AQ m1 nq k1 cq W (Nat.le_trans p1 r1) hnq ((R1.out.next J8.out).next hW) rq))
      have V2 := Lib.hid (fun (h : x2 = 0) (q : List (Int × Int)) (hq : IsSet q (fun p => mem a p)) (AQ : Option Addr) (nq cq : Nat) (W : World) (hW : Below w8.heap.size w8 W) (rq : Rds W W.heap.size 2 AQ nq (rngs q)) (hnq : nq ≤ maxLen) => (show Calls Tryz.prog 11 #[.slice A2 m2 k2, .slice AQ nq cq] W fun e w' => e = .returned (.bool true) ∧ Below W.heap.size W w' from
        sameS_ o2 q true (by rw [(F2.out h).1.eq hq fun p => Iff.rfl]; exact sameS_refl q) A2 AQ m2 nq k2 cq W (Nat.le_trans p2 r2) hnq ((R2.out.next J8.out).next hW) rq))
      have V3 := Lib.hid (fun (h : x3 = 0) (q : List (Int × Int)) (hq : IsSet q (fun p => 0 ≤ p ∧ p ≤ 1114111 ∧ ¬ mem a p)) (AQ : Option Addr) (nq cq : Nat) (W : World) (hW : Below w8.heap.size w8 W) (rq : Rds W W.heap.size 2 AQ nq (rngs q)) (hnq : nq ≤ maxLen) => (show Calls Tryz.prog 11 #[.slice A3' m3 k3, .slice AQ nq cq] W fun e w' => e = .returned (.bool true) ∧ Below W.heap.size W w' from
        sameS_ o3 q true (by rw [(F3.out h).1.eq hq fun p => Iff.rfl]; exact sameS_refl q) A3' AQ m3 nq k3 cq W (Nat.le_trans p3 r3) hnq ((R3.out.next J8.out).next hW) rq))
      have V4 := Lib.hid (fun (h : x4 = 0) (q : List (Int × Int)) (hq : IsSet q (FoldP a)) (AQ : Option Addr) (nq cq : Nat) (W : World) (hW : Below w8.heap.size w8 W) (rq : Rds W W.heap.size 2 AQ nq (rngs q)) (hnq : nq ≤ maxLen) => (show Calls Tryz.prog 11 #[.slice A4 m4 k4, .slice AQ nq cq] W fun e w' => e = .returned (.bool true) ∧ Below W.heap.size W w' from
        sameS_ o4 q true (by rw [(F4.out h).1.eq hq fun p => Iff.rfl]; exact sameS_refl q) A4 AQ m4 nq k4 cq W (Nat.le_trans p4 r4) hnq ((R4.out.next J8.out).next hW) rq))
      clear hc1 hd1
      go_cut [133] from 91 to 156 (fun z wd => z = .bool false ∧ Hid (Below w8.heap.size w8 wd))
      case first =>
        have J := Lib.hid (Below.refl w8.heap.size w8)
        by_cases hx1 : x1 = 0
        · have hz1 : (x1 == 0) = true := by simp [hx1]
          have HZ1 := Lib.hid hx1
          clear hx1
          by_cases hx2 : x2 = 0
          · have hz2 : (x2 == 0) = true := by simp [hx2]
            have HZ2 := Lib.hid hx2
            clear hx2
            by_cases hx3 : x3 = 0
            · have hz3 : (x3 == 0) = true := by simp [hx3]
              have HZ3 := Lib.hid hx3
              clear hx3
              by_cases hx4 : x4 = 0
              · have hz4 : (x4 == 0) = true := by simp [hx4]
                have HZ4 := Lib.hid hx4
                clear hx4
                as_aux_lemma =>
                  go_wp2_with fail
                  refine (U1.out HZ1.out _ J.out).mono ?_
                  rintro e wa1 ⟨q1, hq1, _, AQ1, nq1, cq1, rfl, oq1, hb1⟩
                  have JA1 := Lib.hid (J.out.trans (hb1.mono J.out.size))
                  have hnq1 : nq1 ≤ maxLen := by obtain ⟨_, _, hv, y1, y2⟩ := own_slice oq1; omega
                  have RQ1 := Lib.hid (Rds.of_own oq1)
                  have HQ1 := Lib.hid hq1
                  have HNQ1 := Lib.hid hnq1
                  clear oq1 hb1 hq1 hnq1
                  go_wp2_with fail
                  refine (V1.out HZ1.out q1 HQ1.out AQ1 nq1 cq1 wa1 JA1.out RQ1.out HNQ1.out).mono ?_
                  rintro e wb1 ⟨rfl, hc1⟩
                  have JB1 := Lib.hid (JA1.out.trans (hc1.mono JA1.out.size))
                  clear hc1
                  go_wp2_with fail
                  refine (U2.out HZ2.out _ JB1.out).mono ?_
                  rintro e wa2 ⟨q2, hq2, _, AQ2, nq2, cq2, rfl, oq2, hb2⟩
                  have JA2 := Lib.hid (JB1.out.trans (hb2.mono JB1.out.size))
                  have hnq2 : nq2 ≤ maxLen := by obtain ⟨_, _, hv, y1, y2⟩ := own_slice oq2; omega
                  have RQ2 := Lib.hid (Rds.of_own oq2)
                  have HQ2 := Lib.hid hq2
                  have HNQ2 := Lib.hid hnq2
                  clear oq2 hb2 hq2 hnq2
                  go_wp2_with fail
                  refine (V2.out HZ2.out q2 HQ2.out AQ2 nq2 cq2 wa2 JA2.out RQ2.out HNQ2.out).mono ?_
                  rintro e wb2 ⟨rfl, hc2⟩
                  have JB2 := Lib.hid (JA2.out.trans (hc2.mono JA2.out.size))
                  clear hc2
                  go_wp2_with fail
                  refine (U3.out HZ3.out _ JB2.out).mono ?_
                  rintro e wa3 ⟨q3, hq3, _, AQ3, nq3, cq3, rfl, oq3, hb3⟩
                  have JA3 := Lib.hid (JB2.out.trans (hb3.mono JB2.out.size))
                  have hnq3 : nq3 ≤ maxLen := by obtain ⟨_, _, hv, y1, y2⟩ := own_slice oq3; omega
                  have RQ3 := Lib.hid (Rds.of_own oq3)
                  have HQ3 := Lib.hid hq3
                  have HNQ3 := Lib.hid hnq3
                  clear oq3 hb3 hq3 hnq3
                  go_wp2_with fail
                  refine (V3.out HZ3.out q3 HQ3.out AQ3 nq3 cq3 wa3 JA3.out RQ3.out HNQ3.out).mono ?_
                  rintro e wb3 ⟨rfl, hc3⟩
                  have JB3 := Lib.hid (JA3.out.trans (hc3.mono JA3.out.size))
                  clear hc3
                  go_wp2_with fail
                  refine (U4.out HZ4.out _ JB3.out).mono ?_
                  rintro e wa4 ⟨q4, hq4, _, AQ4, nq4, cq4, rfl, oq4, hb4⟩
                  have JA4 := Lib.hid (JB3.out.trans (hb4.mono JB3.out.size))
                  have hnq4 : nq4 ≤ maxLen := by obtain ⟨_, _, hv, y1, y2⟩ := own_slice oq4; omega
                  have RQ4 := Lib.hid (Rds.of_own oq4)
                  have HQ4 := Lib.hid hq4
                  have HNQ4 := Lib.hid hnq4
                  clear oq4 hb4 hq4 hnq4
                  go_wp2_with fail
                  refine (V4.out HZ4.out q4 HQ4.out AQ4 nq4 cq4 wa4 JA4.out RQ4.out HNQ4.out).mono ?_
                  rintro e wb4 ⟨rfl, hc4⟩
                  have JB4 := Lib.hid (JA4.out.trans (hc4.mono JA4.out.size))
                  clear hc4
                  go_wp2_with fail
                  go_meet
                  exact ⟨rfl, JB4⟩
              · have hz4 : (x4 == 0) = false := by simpa using hx4
                clear hx4
                as_aux_lemma =>
                  go_wp2_with fail
                  refine (U1.out HZ1.out _ J.out).mono ?_
                  rintro e wa1 ⟨q1, hq1, _, AQ1, nq1, cq1, rfl, oq1, hb1⟩
                  have JA1 := Lib.hid (J.out.trans (hb1.mono J.out.size))
                  have hnq1 : nq1 ≤ maxLen := by obtain ⟨_, _, hv, y1, y2⟩ := own_slice oq1; omega
                  have RQ1 := Lib.hid (Rds.of_own oq1)
                  have HQ1 := Lib.hid hq1
                  have HNQ1 := Lib.hid hnq1
                  clear oq1 hb1 hq1 hnq1
                  go_wp2_with fail
                  refine (V1.out HZ1.out q1 HQ1.out AQ1 nq1 cq1 wa1 JA1.out RQ1.out HNQ1.out).mono ?_
                  rintro e wb1 ⟨rfl, hc1⟩
                  have JB1 := Lib.hid (JA1.out.trans (hc1.mono JA1.out.size))
                  clear hc1
                  go_wp2_with fail
                  refine (U2.out HZ2.out _ JB1.out).mono ?_
                  rintro e wa2 ⟨q2, hq2, _, AQ2, nq2, cq2, rfl, oq2, hb2⟩
                  have JA2 := Lib.hid (JB1.out.trans (hb2.mono JB1.out.size))
                  have hnq2 : nq2 ≤ maxLen := by obtain ⟨_, _, hv, y1, y2⟩ := own_slice oq2; omega
                  have RQ2 := Lib.hid (Rds.of_own oq2)
                  have HQ2 := Lib.hid hq2
                  have HNQ2 := Lib.hid hnq2
                  clear oq2 hb2 hq2 hnq2
                  go_wp2_with fail
                  refine (V2.out HZ2.out q2 HQ2.out AQ2 nq2 cq2 wa2 JA2.out RQ2.out HNQ2.out).mono ?_
                  rintro e wb2 ⟨rfl, hc2⟩
                  have JB2 := Lib.hid (JA2.out.trans (hc2.mono JA2.out.size))
                  clear hc2
                  go_wp2_with fail
                  refine (U3.out HZ3.out _ JB2.out).mono ?_
                  rintro e wa3 ⟨q3, hq3, _, AQ3, nq3, cq3, rfl, oq3, hb3⟩
                  have JA3 := Lib.hid (JB2.out.trans (hb3.mono JB2.out.size))
                  have hnq3 : nq3 ≤ maxLen := by obtain ⟨_, _, hv, y1, y2⟩ := own_slice oq3; omega
                  have RQ3 := Lib.hid (Rds.of_own oq3)
                  have HQ3 := Lib.hid hq3
                  have HNQ3 := Lib.hid hnq3
                  clear oq3 hb3 hq3 hnq3
                  go_wp2_with fail
                  refine (V3.out HZ3.out q3 HQ3.out AQ3 nq3 cq3 wa3 JA3.out RQ3.out HNQ3.out).mono ?_
                  rintro e wb3 ⟨rfl, hc3⟩
                  have JB3 := Lib.hid (JA3.out.trans (hc3.mono JA3.out.size))
                  clear hc3
                  go_wp2_with fail
                  go_meet
                  exact ⟨rfl, JB3⟩
            · have hz3 : (x3 == 0) = false := by simpa using hx3
              clear hx3
              by_cases hx4 : x4 = 0
              · have hz4 : (x4 == 0) = true := by simp [hx4]
                have HZ4 := Lib.hid hx4
                clear hx4
                as_aux_lemma =>
                  go_wp2_with fail
                  refine (U1.out HZ1.out _ J.out).mono ?_
                  rintro e wa1 ⟨q1, hq1, _, AQ1, nq1, cq1, rfl, oq1, hb1⟩
                  have JA1 := Lib.hid (J.out.trans (hb1.mono J.out.size))
                  have hnq1 : nq1 ≤ maxLen := by obtain ⟨_, _, hv, y1, y2⟩ := own_slice oq1; omega
                  have RQ1 := Lib.hid (Rds.of_own oq1)
                  have HQ1 := Lib.hid hq1
                  have HNQ1 := Lib.hid hnq1
                  clear oq1 hb1 hq1 hnq1
                  go_wp2_with fail
                  refine (V1.out HZ1.out q1 HQ1.out AQ1 nq1 cq1 wa1 JA1.out RQ1.out HNQ1.out).mono ?_
                  rintro e wb1 ⟨rfl, hc1⟩
                  have JB1 := Lib.hid (JA1.out.trans (hc1.mono JA1.out.size))
                  clear hc1
                  go_wp2_with fail
                  refine (U2.out HZ2.out _ JB1.out).mono ?_
                  rintro e wa2 ⟨q2, hq2, _, AQ2, nq2, cq2, rfl, oq2, hb2⟩
                  have JA2 := Lib.hid (JB1.out.trans (hb2.mono JB1.out.size))
                  have hnq2 : nq2 ≤ maxLen := by obtain ⟨_, _, hv, y1, y2⟩ := own_slice oq2; omega
                  have RQ2 := Lib.hid (Rds.of_own oq2)
                  have HQ2 := Lib.hid hq2
                  have HNQ2 := Lib.hid hnq2
                  clear oq2 hb2 hq2 hnq2
                  go_wp2_with fail
                  refine (V2.out HZ2.out q2 HQ2.out AQ2 nq2 cq2 wa2 JA2.out RQ2.out HNQ2.out).mono ?_
                  rintro e wb2 ⟨rfl, hc2⟩
                  have JB2 := Lib.hid (JA2.out.trans (hc2.mono JA2.out.size))
                  clear hc2
                  go_wp2_with fail
                  refine (U4.out HZ4.out _ JB2.out).mono ?_
                  rintro e wa3 ⟨q3, hq3, _, AQ3, nq3, cq3, rfl, oq3, hb3⟩
                  have JA3 := Lib.hid (JB2.out.trans (hb3.mono JB2.out.size))
                  have hnq3 : nq3 ≤ maxLen := by obtain ⟨_, _, hv, y1, y2⟩ := own_slice oq3; omega
                  have RQ3 := Lib.hid (Rds.of_own oq3)
                  have HQ3 := Lib.hid hq3
                  have HNQ3 := Lib.hid hnq3
                  clear oq3 hb3 hq3 hnq3
                  go_wp2_with fail
                  refine (V4.out HZ4.out q3 HQ3.out AQ3 nq3 cq3 wa3 JA3.out RQ3.out HNQ3.out).mono ?_
                  rintro e wb3 ⟨rfl, hc3⟩
                  have JB3 := Lib.hid (JA3.out.trans (hc3.mono JA3.out.size))
                  clear hc3
                  go_wp2_with fail
                  go_meet
                  exact ⟨rfl, JB3⟩
              · have hz4 : (x4 == 0) = false := by simpa using hx4
                clear hx4
                as_aux_lemma =>
                  go_wp2_with fail
                  refine (U1.out HZ1.out _ J.out).mono ?_
                  rintro e wa1 ⟨q1, hq1, _, AQ1, nq1, cq1, rfl, oq1, hb1⟩
                  have JA1 := Lib.hid (J.out.trans (hb1.mono J.out.size))
                  have hnq1 : nq1 ≤ maxLen := by obtain ⟨_, _, hv, y1, y2⟩ := own_slice oq1; omega
                  have RQ1 := Lib.hid (Rds.of_own oq1)
                  have HQ1 := Lib.hid hq1
                  have HNQ1 := Lib.hid hnq1
                  clear oq1 hb1 hq1 hnq1
                  go_wp2_with fail
                  refine (V1.out HZ1.out q1 HQ1.out AQ1 nq1 cq1 wa1 JA1.out RQ1.out HNQ1.out).mono ?_
                  rintro e wb1 ⟨rfl, hc1⟩
                  have JB1 := Lib.hid (JA1.out.trans (hc1.mono JA1.out.size))
                  clear hc1
                  go_wp2_with fail
                  refine (U2.out HZ2.out _ JB1.out).mono ?_
                  rintro e wa2 ⟨q2, hq2, _, AQ2, nq2, cq2, rfl, oq2, hb2⟩
                  have JA2 := Lib.hid (JB1.out.trans (hb2.mono JB1.out.size))
                  have hnq2 : nq2 ≤ maxLen := by obtain ⟨_, _, hv, y1, y2⟩ := own_slice oq2; omega
                  have RQ2 := Lib.hid (Rds.of_own oq2)
                  have HQ2 := Lib.hid hq2
                  have HNQ2 := Lib.hid hnq2
                  clear oq2 hb2 hq2 hnq2
                  go_wp2_with fail
                  refine (V2.out HZ2.out q2 HQ2.out AQ2 nq2 cq2 wa2 JA2.out RQ2.out HNQ2.out).mono ?_
                  rintro e wb2 ⟨rfl, hc2⟩
                  have JB2 := Lib.hid (JA2.out.trans (hc2.mono JA2.out.size))
                  clear hc2
                  go_wp2_with fail
                  go_meet
                  exact ⟨rfl, JB2⟩
          · have hz2 : (x2 == 0) = false := by simpa using hx2
            clear hx2
            by_cases hx3 : x3 = 0
            · have hz3 : (x3 == 0) = true := by simp [hx3]
              have HZ3 := Lib.hid hx3
              clear hx3
              by_cases hx4 : x4 = 0
              · have hz4 : (x4 == 0) = true := by simp [hx4]
                have HZ4 := Lib.hid hx4
                clear hx4
                as_aux_lemma =>
                  go_wp2_with fail
                  refine (U1.out HZ1.out _ J.out).mono ?_
                  rintro e wa1 ⟨q1, hq1, _, AQ1, nq1, cq1, rfl, oq1, hb1⟩
                  have JA1 := Lib.hid (J.out.trans (hb1.mono J.out.size))
                  have hnq1 : nq1 ≤ maxLen := by obtain ⟨_, _, hv, y1, y2⟩ := own_slice oq1; omega
                  have RQ1 := Lib.hid (Rds.of_own oq1)
                  have HQ1 := Lib.hid hq1
                  have HNQ1 := Lib.hid hnq1
                  clear oq1 hb1 hq1 hnq1
                  go_wp2_with fail
                  refine (V1.out HZ1.out q1 HQ1.out AQ1 nq1 cq1 wa1 JA1.out RQ1.out HNQ1.out).mono ?_
                  rintro e wb1 ⟨rfl, hc1⟩
                  have JB1 := Lib.hid (JA1.out.trans (hc1.mono JA1.out.size))
                  clear hc1
                  go_wp2_with fail
                  refine (U3.out HZ3.out _ JB1.out).mono ?_
                  rintro e wa2 ⟨q2, hq2, _, AQ2, nq2, cq2, rfl, oq2, hb2⟩
                  have JA2 := Lib.hid (JB1.out.trans (hb2.mono JB1.out.size))
                  have hnq2 : nq2 ≤ maxLen := by obtain ⟨_, _, hv, y1, y2⟩ := own_slice oq2; omega
                  have RQ2 := Lib.hid (Rds.of_own oq2)
                  have HQ2 := Lib.hid hq2
                  have HNQ2 := Lib.hid hnq2
                  clear oq2 hb2 hq2 hnq2
                  go_wp2_with fail
                  refine (V3.out HZ3.out q2 HQ2.out AQ2 nq2 cq2 wa2 JA2.out RQ2.out HNQ2.out).mono ?_
                  rintro e wb2 ⟨rfl, hc2⟩
                  have JB2 := Lib.hid (JA2.out.trans (hc2.mono JA2.out.size))
                  clear hc2
                  go_wp2_with fail
                  refine (U4.out HZ4.out _ JB2.out).mono ?_
                  rintro e wa3 ⟨q3, hq3, _, AQ3, nq3, cq3, rfl, oq3, hb3⟩
                  have JA3 := Lib.hid (JB2.out.trans (hb3.mono JB2.out.size))
                  have hnq3 : nq3 ≤ maxLen := by obtain ⟨_, _, hv, y1, y2⟩ := own_slice oq3; omega
                  have RQ3 := Lib.hid (Rds.of_own oq3)
                  have HQ3 := Lib.hid hq3
                  have HNQ3 := Lib.hid hnq3
                  clear oq3 hb3 hq3 hnq3
                  go_wp2_with fail
                  refine (V4.out HZ4.out q3 HQ3.out AQ3 nq3 cq3 wa3 JA3.out RQ3.out HNQ3.out).mono ?_
                  rintro e wb3 ⟨rfl, hc3⟩
                  have JB3 := Lib.hid (JA3.out.trans (hc3.mono JA3.out.size))
                  clear hc3
                  go_wp2_with fail
                  go_meet
                  exact ⟨rfl, JB3⟩
              · have hz4 : (x4 == 0) = false := by simpa using hx4
                clear hx4
                as_aux_lemma =>
                  go_wp2_with fail
                  refine (U1.out HZ1.out _ J.out).mono ?_
                  rintro e wa1 ⟨q1, hq1, _, AQ1, nq1, cq1, rfl, oq1, hb1⟩
                  have JA1 := Lib.hid (J.out.trans (hb1.mono J.out.size))
                  have hnq1 : nq1 ≤ maxLen := by obtain ⟨_, _, hv, y1, y2⟩ := own_slice oq1; omega
                  have RQ1 := Lib.hid (Rds.of_own oq1)
                  have HQ1 := Lib.hid hq1
                  have HNQ1 := Lib.hid hnq1
                  clear oq1 hb1 hq1 hnq1
                  go_wp2_with fail
                  refine (V1.out HZ1.out q1 HQ1.out AQ1 nq1 cq1 wa1 JA1.out RQ1.out HNQ1.out).mono ?_
                  rintro e wb1 ⟨rfl, hc1⟩
                  have JB1 := Lib.hid (JA1.out.trans (hc1.mono JA1.out.size))
                  clear hc1
                  go_wp2_with fail
                  refine (U3.out HZ3.out _ JB1.out).mono ?_
                  rintro e wa2 ⟨q2, hq2, _, AQ2, nq2, cq2, rfl, oq2, hb2⟩
                  have JA2 := Lib.hid (JB1.out.trans (hb2.mono JB1.out.size))
                  have hnq2 : nq2 ≤ maxLen := by obtain ⟨_, _, hv, y1, y2⟩ := own_slice oq2; omega
                  have RQ2 := Lib.hid (Rds.of_own oq2)
                  have HQ2 := Lib.hid hq2
                  have HNQ2 := Lib.hid hnq2
                  clear oq2 hb2 hq2 hnq2
                  go_wp2_with fail
                  refine (V3.out HZ3.out q2 HQ2.out AQ2 nq2 cq2 wa2 JA2.out RQ2.out HNQ2.out).mono ?_
                  rintro e wb2 ⟨rfl, hc2⟩
                  have JB2 := Lib.hid (JA2.out.trans (hc2.mono JA2.out.size))
                  clear hc2
                  go_wp2_with fail
                  go_meet
                  exact ⟨rfl, JB2⟩
            · have hz3 : (x3 == 0) = false := by simpa using hx3
              clear hx3
              by_cases hx4 : x4 = 0
              · have hz4 : (x4 == 0) = true := by simp [hx4]
                have HZ4 := Lib.hid hx4
                clear hx4
                as_aux_lemma =>
                  go_wp2_with fail
                  refine (U1.out HZ1.out _ J.out).mono ?_
                  rintro e wa1 ⟨q1, hq1, _, AQ1, nq1, cq1, rfl, oq1, hb1⟩
                  have JA1 := Lib.hid (J.out.trans (hb1.mono J.out.size))
                  have hnq1 : nq1 ≤ maxLen := by obtain ⟨_, _, hv, y1, y2⟩ := own_slice oq1; omega
                  have RQ1 := Lib.hid (Rds.of_own oq1)
                  have HQ1 := Lib.hid hq1
                  have HNQ1 := Lib.hid hnq1
                  clear oq1 hb1 hq1 hnq1
                  go_wp2_with fail
                  refine (V1.out HZ1.out q1 HQ1.out AQ1 nq1 cq1 wa1 JA1.out RQ1.out HNQ1.out).mono ?_
                  rintro e wb1 ⟨rfl, hc1⟩
                  have JB1 := Lib.hid (JA1.out.trans (hc1.mono JA1.out.size))
                  clear hc1
                  go_wp2_with fail
                  refine (U4.out HZ4.out _ JB1.out).mono ?_
                  rintro e wa2 ⟨q2, hq2, _, AQ2, nq2, cq2, rfl, oq2, hb2⟩
                  have JA2 := Lib.hid (JB1.out.trans (hb2.mono JB1.out.size))
                  have hnq2 : nq2 ≤ maxLen := by obtain ⟨_, _, hv, y1, y2⟩ := own_slice oq2; omega
                  have RQ2 := Lib.hid (Rds.of_own oq2)
                  have HQ2 := Lib.hid hq2
                  have HNQ2 := Lib.hid hnq2
                  clear oq2 hb2 hq2 hnq2
                  go_wp2_with fail
                  refine (V4.out HZ4.out q2 HQ2.out AQ2 nq2 cq2 wa2 JA2.out RQ2.out HNQ2.out).mono ?_
                  rintro e wb2 ⟨rfl, hc2⟩
                  have JB2 := Lib.hid (JA2.out.trans (hc2.mono JA2.out.size))
                  clear hc2
                  go_wp2_with fail
                  go_meet
                  exact ⟨rfl, JB2⟩
              · have hz4 : (x4 == 0) = false := by simpa using hx4
                clear hx4
                as_aux_lemma =>
                  go_wp2_with fail
                  refine (U1.out HZ1.out _ J.out).mono ?_
                  rintro e wa1 ⟨q1, hq1, _, AQ1, nq1, cq1, rfl, oq1, hb1⟩
                  have JA1 := Lib.hid (J.out.trans (hb1.mono J.out.size))
                  have hnq1 : nq1 ≤ maxLen := by obtain ⟨_, _, hv, y1, y2⟩ := own_slice oq1; omega
                  have RQ1 := Lib.hid (Rds.of_own oq1)
                  have HQ1 := Lib.hid hq1
                  have HNQ1 := Lib.hid hnq1
                  clear oq1 hb1 hq1 hnq1
                  go_wp2_with fail
                  refine (V1.out HZ1.out q1 HQ1.out AQ1 nq1 cq1 wa1 JA1.out RQ1.out HNQ1.out).mono ?_
                  rintro e wb1 ⟨rfl, hc1⟩
                  have JB1 := Lib.hid (JA1.out.trans (hc1.mono JA1.out.size))
                  clear hc1
                  go_wp2_with fail
                  go_meet
                  exact ⟨rfl, JB1⟩
        · have hz1 : (x1 == 0) = false := by simpa using hx1
          clear hx1
          by_cases hx2 : x2 = 0
          · have hz2 : (x2 == 0) = true := by simp [hx2]
            have HZ2 := Lib.hid hx2
            clear hx2
            by_cases hx3 : x3 = 0
            · have hz3 : (x3 == 0) = true := by simp [hx3]
              have HZ3 := Lib.hid hx3
              clear hx3
              by_cases hx4 : x4 = 0
              · have hz4 : (x4 == 0) = true := by simp [hx4]
                have HZ4 := Lib.hid hx4
                clear hx4
                as_aux_lemma =>
                  go_wp2_with fail
                  refine (U2.out HZ2.out _ J.out).mono ?_
                  rintro e wa1 ⟨q1, hq1, _, AQ1, nq1, cq1, rfl, oq1, hb1⟩
                  have JA1 := Lib.hid (J.out.trans (hb1.mono J.out.size))
                  have hnq1 : nq1 ≤ maxLen := by obtain ⟨_, _, hv, y1, y2⟩ := own_slice oq1; omega
                  have RQ1 := Lib.hid (Rds.of_own oq1)
                  have HQ1 := Lib.hid hq1
                  have HNQ1 := Lib.hid hnq1
                  clear oq1 hb1 hq1 hnq1
                  go_wp2_with fail
                  refine (V2.out HZ2.out q1 HQ1.out AQ1 nq1 cq1 wa1 JA1.out RQ1.out HNQ1.out).mono ?_
                  rintro e wb1 ⟨rfl, hc1⟩
                  have JB1 := Lib.hid (JA1.out.trans (hc1.mono JA1.out.size))
                  clear hc1
                  go_wp2_with fail
                  refine (U3.out HZ3.out _ JB1.out).mono ?_
                  rintro e wa2 ⟨q2, hq2, _, AQ2, nq2, cq2, rfl, oq2, hb2⟩
                  have JA2 := Lib.hid (JB1.out.trans (hb2.mono JB1.out.size))
                  have hnq2 : nq2 ≤ maxLen := by obtain ⟨_, _, hv, y1, y2⟩ := own_slice oq2; omega
                  have RQ2 := Lib.hid (Rds.of_own oq2)
                  have HQ2 := Lib.hid hq2
                  have HNQ2 := Lib.hid hnq2
                  clear oq2 hb2 hq2 hnq2
                  go_wp2_with fail
                  refine (V3.out HZ3.out q2 HQ2.out AQ2 nq2 cq2 wa2 JA2.out RQ2.out HNQ2.out).mono ?_
                  rintro e wb2 ⟨rfl, hc2⟩
                  have JB2 := Lib.hid (JA2.out.trans (hc2.mono JA2.out.size))
                  clear hc2
                  go_wp2_with fail
                  refine (U4.out HZ4.out _ JB2.out).mono ?_
                  rintro e wa3 ⟨q3, hq3, _, AQ3, nq3, cq3, rfl, oq3, hb3⟩
                  have JA3 := Lib.hid (JB2.out.trans (hb3.mono JB2.out.size))
                  have hnq3 : nq3 ≤ maxLen := by obtain ⟨_, _, hv, y1, y2⟩ := own_slice oq3; omega
                  have RQ3 := Lib.hid (Rds.of_own oq3)
                  have HQ3 := Lib.hid hq3
                  have HNQ3 := Lib.hid hnq3
                  clear oq3 hb3 hq3 hnq3
                  go_wp2_with fail
                  refine (V4.out HZ4.out q3 HQ3.out AQ3 nq3 cq3 wa3 JA3.out RQ3.out HNQ3.out).mono ?_
                  rintro e wb3 ⟨rfl, hc3⟩
                  have JB3 := Lib.hid (JA3.out.trans (hc3.mono JA3.out.size))
                  clear hc3
                  go_wp2_with fail
                  go_meet
                  exact ⟨rfl, JB3⟩
              · have hz4 : (x4 == 0) = false := by simpa using hx4
                clear hx4
                as_aux_lemma =>
                  go_wp2_with fail
                  refine (U2.out HZ2.out _ J.out).mono ?_
                  rintro e wa1 ⟨q1, hq1, _, AQ1, nq1, cq1, rfl, oq1, hb1⟩
                  have JA1 := Lib.hid (J.out.trans (hb1.mono J.out.size))
                  have hnq1 : nq1 ≤ maxLen := by obtain ⟨_, _, hv, y1, y2⟩ := own_slice oq1; omega
                  have RQ1 := Lib.hid (Rds.of_own oq1)
                  have HQ1 := Lib.hid hq1
                  have HNQ1 := Lib.hid hnq1
                  clear oq1 hb1 hq1 hnq1
                  go_wp2_with fail
                  refine (V2.out HZ2.out q1 HQ1.out AQ1 nq1 cq1 wa1 JA1.out RQ1.out HNQ1.out).mono ?_
                  rintro e wb1 ⟨rfl, hc1⟩
                  have JB1 := Lib.hid (JA1.out.trans (hc1.mono JA1.out.size))
                  clear hc1
                  go_wp2_with fail
                  refine (U3.out HZ3.out _ JB1.out).mono ?_
                  rintro e wa2 ⟨q2, hq2, _, AQ2, nq2, cq2, rfl, oq2, hb2⟩
                  have JA2 := Lib.hid (JB1.out.trans (hb2.mono JB1.out.size))
                  have hnq2 : nq2 ≤ maxLen := by obtain ⟨_, _, hv, y1, y2⟩ := own_slice oq2; omega
                  have RQ2 := Lib.hid (Rds.of_own oq2)
                  have HQ2 := Lib.hid hq2
                  have HNQ2 := Lib.hid hnq2
                  clear oq2 hb2 hq2 hnq2
                  go_wp2_with fail
                  refine (V3.out HZ3.out q2 HQ2.out AQ2 nq2 cq2 wa2 JA2.out RQ2.out HNQ2.out).mono ?_
                  rintro e wb2 ⟨rfl, hc2⟩
                  have JB2 := Lib.hid (JA2.out.trans (hc2.mono JA2.out.size))
                  clear hc2
                  go_wp2_with fail
                  go_meet
                  exact ⟨rfl, JB2⟩
            · have hz3 : (x3 == 0) = false := by simpa using hx3
              clear hx3
              by_cases hx4 : x4 = 0
              · have hz4 : (x4 == 0) = true := by simp [hx4]
                have HZ4 := Lib.hid hx4
                clear hx4
                as_aux_lemma =>
                  go_wp2_with fail
                  refine (U2.out HZ2.out _ J.out).mono ?_
                  rintro e wa1 ⟨q1, hq1, _, AQ1, nq1, cq1, rfl, oq1, hb1⟩
                  have JA1 := Lib.hid (J.out.trans (hb1.mono J.out.size))
                  have hnq1 : nq1 ≤ maxLen := by obtain ⟨_, _, hv, y1, y2⟩ := own_slice oq1; omega
                  have RQ1 := Lib.hid (Rds.of_own oq1)
                  have HQ1 := Lib.hid hq1
                  have HNQ1 := Lib.hid hnq1
                  clear oq1 hb1 hq1 hnq1
                  go_wp2_with fail
                  refine (V2.out HZ2.out q1 HQ1.out AQ1 nq1 cq1 wa1 JA1.out RQ1.out HNQ1.out).mono ?_
                  rintro e wb1 ⟨rfl, hc1⟩
                  have JB1 := Lib.hid (JA1.out.trans (hc1.mono JA1.out.size))
                  clear hc1
                  go_wp2_with fail
                  refine (U4.out HZ4.out _ JB1.out).mono ?_
                  rintro e wa2 ⟨q2, hq2, _, AQ2, nq2, cq2, rfl, oq2, hb2⟩
                  have JA2 := Lib.hid (JB1.out.trans (hb2.mono JB1.out.size))
                  have hnq2 : nq2 ≤ maxLen := by obtain ⟨_, _, hv, y1, y2⟩ := own_slice oq2; omega
                  have RQ2 := Lib.hid (Rds.of_own oq2)
                  have HQ2 := Lib.hid hq2
                  have HNQ2 := Lib.hid hnq2
                  clear oq2 hb2 hq2 hnq2
                  go_wp2_with fail
                  refine (V4.out HZ4.out q2 HQ2.out AQ2 nq2 cq2 wa2 JA2.out RQ2.out HNQ2.out).mono ?_
                  rintro e wb2 ⟨rfl, hc2⟩
                  have JB2 := Lib.hid (JA2.out.trans (hc2.mono JA2.out.size))
                  clear hc2
                  go_wp2_with fail
                  go_meet
                  exact ⟨rfl, JB2⟩
              · have hz4 : (x4 == 0) = false := by simpa using hx4
                clear hx4
                as_aux_lemma =>
                  go_wp2_with fail
                  refine (U2.out HZ2.out _ J.out).mono ?_
                  rintro e wa1 ⟨q1, hq1, _, AQ1, nq1, cq1, rfl, oq1, hb1⟩
                  have JA1 := Lib.hid (J.out.trans (hb1.mono J.out.size))
                  have hnq1 : nq1 ≤ maxLen := by obtain ⟨_, _, hv, y1, y2⟩ := own_slice oq1; omega
                  have RQ1 := Lib.hid (Rds.of_own oq1)
                  have HQ1 := Lib.hid hq1
                  have HNQ1 := Lib.hid hnq1
                  clear oq1 hb1 hq1 hnq1
                  go_wp2_with fail
                  refine (V2.out HZ2.out q1 HQ1.out AQ1 nq1 cq1 wa1 JA1.out RQ1.out HNQ1.out).mono ?_
                  rintro e wb1 ⟨rfl, hc1⟩
                  have JB1 := Lib.hid (JA1.out.trans (hc1.mono JA1.out.size))
                  clear hc1
                  go_wp2_with fail
                  go_meet
                  exact ⟨rfl, JB1⟩
          · have hz2 : (x2 == 0) = false := by simpa using hx2
            clear hx2
            by_cases hx3 : x3 = 0
            · have hz3 : (x3 == 0) = true := by simp [hx3]
              have HZ3 := Lib.hid hx3
              clear hx3
              by_cases hx4 : x4 = 0
              · have hz4 : (x4 == 0) = true := by simp [hx4]
                have HZ4 := Lib.hid hx4
                clear hx4
                as_aux_lemma =>
                  go_wp2_with fail
                  refine (U3.out HZ3.out _ J.out).mono ?_
                  rintro e wa1 ⟨q1, hq1, _, AQ1, nq1, cq1, rfl, oq1, hb1⟩
                  have JA1 := Lib.hid (J.out.trans (hb1.mono J.out.size))
                  have hnq1 : nq1 ≤ maxLen := by obtain ⟨_, _, hv, y1, y2⟩ := own_slice oq1; omega
                  have RQ1 := Lib.hid (Rds.of_own oq1)
                  have HQ1 := Lib.hid hq1
                  have HNQ1 := Lib.hid hnq1
                  clear oq1 hb1 hq1 hnq1
                  go_wp2_with fail
                  refine (V3.out HZ3.out q1 HQ1.out AQ1 nq1 cq1 wa1 JA1.out RQ1.out HNQ1.out).mono ?_
                  rintro e wb1 ⟨rfl, hc1⟩
                  have JB1 := Lib.hid (JA1.out.trans (hc1.mono JA1.out.size))
                  clear hc1
                  go_wp2_with fail
                  refine (U4.out HZ4.out _ JB1.out).mono ?_
                  rintro e wa2 ⟨q2, hq2, _, AQ2, nq2, cq2, rfl, oq2, hb2⟩
                  have JA2 := Lib.hid (JB1.out.trans (hb2.mono JB1.out.size))
                  have hnq2 : nq2 ≤ maxLen := by obtain ⟨_, _, hv, y1, y2⟩ := own_slice oq2; omega
                  have RQ2 := Lib.hid (Rds.of_own oq2)
                  have HQ2 := Lib.hid hq2
                  have HNQ2 := Lib.hid hnq2
                  clear oq2 hb2 hq2 hnq2
                  go_wp2_with fail
                  refine (V4.out HZ4.out q2 HQ2.out AQ2 nq2 cq2 wa2 JA2.out RQ2.out HNQ2.out).mono ?_
                  rintro e wb2 ⟨rfl, hc2⟩
                  have JB2 := Lib.hid (JA2.out.trans (hc2.mono JA2.out.size))
                  clear hc2
                  go_wp2_with fail
                  go_meet
                  exact ⟨rfl, JB2⟩
              · have hz4 : (x4 == 0) = false := by simpa using hx4
                clear hx4
                as_aux_lemma =>
                  go_wp2_with fail
                  refine (U3.out HZ3.out _ J.out).mono ?_
                  rintro e wa1 ⟨q1, hq1, _, AQ1, nq1, cq1, rfl, oq1, hb1⟩
                  have JA1 := Lib.hid (J.out.trans (hb1.mono J.out.size))
                  have hnq1 : nq1 ≤ maxLen := by obtain ⟨_, _, hv, y1, y2⟩ := own_slice oq1; omega
                  have RQ1 := Lib.hid (Rds.of_own oq1)
                  have HQ1 := Lib.hid hq1
                  have HNQ1 := Lib.hid hnq1
                  clear oq1 hb1 hq1 hnq1
                  go_wp2_with fail
                  refine (V3.out HZ3.out q1 HQ1.out AQ1 nq1 cq1 wa1 JA1.out RQ1.out HNQ1.out).mono ?_
                  rintro e wb1 ⟨rfl, hc1⟩
                  have JB1 := Lib.hid (JA1.out.trans (hc1.mono JA1.out.size))
                  clear hc1
                  go_wp2_with fail
                  go_meet
                  exact ⟨rfl, JB1⟩
            · have hz3 : (x3 == 0) = false := by simpa using hx3
              clear hx3
              by_cases hx4 : x4 = 0
              · have hz4 : (x4 == 0) = true := by simp [hx4]
                have HZ4 := Lib.hid hx4
                clear hx4
                as_aux_lemma =>
                  go_wp2_with fail
                  refine (U4.out HZ4.out _ J.out).mono ?_
                  rintro e wa1 ⟨q1, hq1, _, AQ1, nq1, cq1, rfl, oq1, hb1⟩
                  have JA1 := Lib.hid (J.out.trans (hb1.mono J.out.size))
                  have hnq1 : nq1 ≤ maxLen := by obtain ⟨_, _, hv, y1, y2⟩ := own_slice oq1; omega
                  have RQ1 := Lib.hid (Rds.of_own oq1)
                  have HQ1 := Lib.hid hq1
                  have HNQ1 := Lib.hid hnq1
                  clear oq1 hb1 hq1 hnq1
                  go_wp2_with fail
                  refine (V4.out HZ4.out q1 HQ1.out AQ1 nq1 cq1 wa1 JA1.out RQ1.out HNQ1.out).mono ?_
                  rintro e wb1 ⟨rfl, hc1⟩
                  have JB1 := Lib.hid (JA1.out.trans (hc1.mono JA1.out.size))
                  clear hc1
                  go_wp2_with fail
                  go_meet
                  exact ⟨rfl, JB1⟩
              · have hz4 : (x4 == 0) = false := by simpa using hx4
                clear hx4
                as_aux_lemma =>
                  go_wp2_with fail
                  go_meet
                  exact ⟨rfl, J⟩
      case rest =>
        obtain ⟨rfl, hcb⟩ := hcut
        have z1 := K1.out.size
        have z2 := L2.out.size
        have z3 := L3.out.size
        have z4 := L4.out.size
        have z5 := L5.out.size
        have z8 := J8.out.size
        have zc := hcb.out.size
        have N1 := Lib.hid ((I1.out.below J8.out).below hcb.out)
        have N2 := Lib.hid ((I2.out.below J8.out).below hcb.out)
        have N3 := Lib.hid ((I3.out.below J8.out).below hcb.out)
        have N4 := Lib.hid ((I4.out.below J8.out).below hcb.out)
        have NR := Lib.hid (((RoadI.of S5.out).below J8.out).below hcb.out)
        have NO := Lib.hid (own_below (own_below O5.out J8.out (Nat.le_refl _)) hcb.out (Nat.le_refl _))
        have NK := Lib.hid (J9.out.trans (hcb.out.mono J9.out.size))
        obtain ⟨s0, hs0⟩ : ∃ s, s = wrr.heap.size := ⟨_, rfl⟩
        obtain ⟨s1, hs1⟩ : ∃ s, s = v1.heap.size := ⟨_, rfl⟩
        obtain ⟨s2, hs2⟩ : ∃ s, s = v2.heap.size := ⟨_, rfl⟩
        obtain ⟨s3, hs3⟩ : ∃ s, s = v3.heap.size := ⟨_, rfl⟩
        obtain ⟨s4, hs4⟩ : ∃ s, s = v4.heap.size := ⟨_, rfl⟩
        rw [← hs0] at N1 NK z1
        rw [← hs1] at N1 N2 z1 z2
        rw [← hs2] at N2 N3 z2 z3
        rw [← hs3] at N3 N4 z3 z4
        rw [← hs4] at N4 NR NO z4 z5
        have hsc : s4 ≤ wc.heap.size := by omega
        have hm5 := Nat.le_trans p5 r5
        unfold maxLen at hm5
        have HLV := Lib.hid (show vs.length = m5 by have := O5.out.1; omega)
        have HS0 := Lib.hid hs0
        clear hs0 hs1 hs2 hs3 hs4 z5 z8 zc I1 I2 I3 I4 R1 R2 R3 R4 RX5 RY5 RA5 RB5 HX5 HX8 J7 J8 J9 K1 K2 K3 K4 K5 L2 L3 L4 L5 L2' L3' L4' O5 S5 hcb U1 U2 U3 U4 V1 V2 V3 V4 G1 F1 F2 F3 F4 F5
        obtain ⟨E, hE⟩ : ∃ E, E = roadE enc a := ⟨_, rfl⟩
        rw [← hE]
        clear hE
        go_wp2_with fail
        go_loopw [21] (fun i wx => ∃ j : Nat, i = .int .i64 (j : Int) ∧ j ≤ m5 ∧ s4 ≤ wx.heap.size ∧ Hid (RoadI wx s4 vs ls j) ∧ Hid (wx.ownsRow s4 22 1 (.slice A5 m5 k5) m5 vs) ∧ Hid (OwnI wx s0 s1 (.slice A1 m1 k1) m1) ∧ Hid (OwnI wx s1 s2 (.slice A2 m2 k2) m2) ∧ Hid (OwnI wx s2 s3 (.slice A3' m3 k3) m3) ∧ Hid (OwnI wx s3 s4 (.slice A4 m4 k4) m4) ∧ Hid (Below s0 wrr wx)) (fun i _ => (m5 - intOf i).toNat)
        case atStart => exact ⟨0, by go_num, by omega, hsc, NR, NO, N1, N2, N3, N4, NK⟩
        case round =>
          obtain ⟨j, rfl, hj, hsx, MR, MO, M1, M2, M3, M4, MK⟩ := hrel
          by_cases hgo : j < m5 ∧ E = 0
          · obtain ⟨hjm, hE0⟩ := hgo
            have hEb : (E == 0) = true := by simp [hE0]
            clear hE0
            have hj' : (j : Int) < (m5 : Int) := by omega
            have hj0 : (0 : Int) ≤ (j : Int) := by omega
            obtain ⟨bq, oq, hlq, hAq, hbq, hcq⟩ := (Rds.of_own MO.out).at1 hjm
            have hll : j < ls.length := by rw [← MR.out.1]; exact hlq
            obtain ⟨nq, hnq⟩ := MR.out.2.1 j hlq hll (Nat.le_refl _)
            obtain ⟨AQ, cq, hvq, _, _⟩ := own_slice hnq
            have HQ := Lib.hid hnq
            have HVQ := Lib.hid hvq
            rw [hvq] at hcq
            have hnq' : wr.ownsRow s4 25 2 (.slice AQ nq cq) nq (rngs ls[j]) := by rw [← hvq]; exact hnq
            have CQ := Lib.hid (spoil16 _ AQ nq cq s4 wr hnq')
            subst hAq
            clear hnq hvq hnq'
            go_wp2_with fail
            refine CQ.out.mono ?_
            rintro e wy ⟨rfl, hgq⟩
            have HGQ := Lib.hid (show wr.grownBy wy vs[j].ownBlock by rw [HVQ.out]; exact hgq)
            have HNE := Lib.hid (fun g (h : vs[j].ownBlock = some g) => (HQ.out.lt g h).1)
            have Q1 := Lib.hid (M1.out.kept HGQ.out fun g h => .inr (by have := HNE.out g h; omega))
            have Q2 := Lib.hid (M2.out.kept HGQ.out fun g h => .inr (by have := HNE.out g h; omega))
            have Q3 := Lib.hid (M3.out.kept HGQ.out fun g h => .inr (by have := HNE.out g h; omega))
            have Q4 := Lib.hid (M4.out.kept HGQ.out fun g h => .inr (by have := HNE.out g h; omega))
            have QR := Lib.hid (MR.out.step hlq HGQ.out)
            have QO := Lib.hid (own_kept MO.out HGQ.out (own_ne_type HQ.out MO.out (by decide)))
            have QK := Lib.hid (MK.out.grown HGQ.out (by omega) (fun g h => by have := HNE.out g h; omega))
            have hsy : s4 ≤ wy.heap.size := Nat.le_trans hsx HGQ.out.size
            clear hgq
            go_wp2_with fail
            exact ⟨⟨j + 1, by go_num, by omega, hsy, QR, QO, Q1, Q2, Q3, Q4, QK⟩, by simp only [intOf]; omega⟩
          · have CS1 := Lib.hid (spoilI M1.out)
            obtain ⟨tt, htt⟩ : ∃ tt, tt = (decide ((j : Int) < (m5 : Int)) && (E == 0)) := ⟨_, rfl⟩
            by_cases hjm : j < m5
            · have hEb : (E == 0) = false := by
                have : ¬ E = 0 := fun h => hgo ⟨hjm, h⟩
                simpa using this
              have hj' : (j : Int) < (m5 : Int) := by omega
              clear htt hgo
              go_wp2_with fail
              refine CS1.out.mono ?_
              rintro e x1 ⟨rfl, hg1⟩
              have X2 := Lib.hid (M2.out.kept hg1 fun g h => .inl (M1.out.at g h).2)
              have X3 := Lib.hid (M3.out.kept hg1 fun g h => .inl (by have := (M1.out.at g h).2; omega))
              have X4 := Lib.hid (M4.out.kept hg1 fun g h => .inl (by have := (M1.out.at g h).2; omega))
              have XK := Lib.hid (M1.out.spoilt MK.out hg1 (Nat.le_refl _) (by omega))
              have hx1 := hg1.size
              have CS2 := Lib.hid (spoilI X2.out)
              clear hg1
              go_wp2_with fail
              refine CS2.out.mono ?_
              rintro e x2 ⟨rfl, hg2⟩
              have Y3 := Lib.hid (X3.out.kept hg2 fun g h => .inl (X2.out.at g h).2)
              have Y4 := Lib.hid (X4.out.kept hg2 fun g h => .inl (by have := (X2.out.at g h).2; omega))
              have YK := Lib.hid (X2.out.spoilt XK.out hg2 (by omega) (by omega))
              have hx2 := hg2.size
              have CS3 := Lib.hid (spoilI Y3.out)
              clear hg2
              go_wp2_with fail
              refine CS3.out.mono ?_
              rintro e x3 ⟨rfl, hg3⟩
              have Z4 := Lib.hid (Y4.out.kept hg3 fun g h => .inl (Y3.out.at g h).2)
              have ZK := Lib.hid (Y3.out.spoilt YK.out hg3 (by omega) (by omega))
              have hx3 := hg3.size
              have CS4 := Lib.hid (spoilI Z4.out)
              clear hg3
              go_wp2_with fail
              refine CS4.out.mono ?_
              rintro e x4 ⟨rfl, hg4⟩
              have TK := Lib.hid (Z4.out.spoilt ZK.out hg4 (by omega) (by omega))
              clear hg4
              have TW := Lib.hid (show Below w6.heap.size w6 x4 from HBR.out.trans ((show Below wrr.heap.size wrr x4 by have h := TK.out; rw [HS0.out] at h; exact h).mono HBR.out.size))
              go_wp2_with fail
              exact ⟨⟨k + 1, by go_num, by omega, TW⟩, by simp only [intOf]; omega⟩
            · have hj' : ¬ (j : Int) < (m5 : Int) := by omega
              clear htt hgo
              go_wp2_with fail
              refine CS1.out.mono ?_
              rintro e x1 ⟨rfl, hg1⟩
              have X2 := Lib.hid (M2.out.kept hg1 fun g h => .inl (M1.out.at g h).2)
              have X3 := Lib.hid (M3.out.kept hg1 fun g h => .inl (by have := (M1.out.at g h).2; omega))
              have X4 := Lib.hid (M4.out.kept hg1 fun g h => .inl (by have := (M1.out.at g h).2; omega))
              have XK := Lib.hid (M1.out.spoilt MK.out hg1 (Nat.le_refl _) (by omega))
              have hx1 := hg1.size
              have CS2 := Lib.hid (spoilI X2.out)
              clear hg1
              go_wp2_with fail
              refine CS2.out.mono ?_
              rintro e x2 ⟨rfl, hg2⟩
              have Y3 := Lib.hid (X3.out.kept hg2 fun g h => .inl (X2.out.at g h).2)
              have Y4 := Lib.hid (X4.out.kept hg2 fun g h => .inl (by have := (X2.out.at g h).2; omega))
              have YK := Lib.hid (X2.out.spoilt XK.out hg2 (by omega) (by omega))
              have hx2 := hg2.size
              have CS3 := Lib.hid (spoilI Y3.out)
              clear hg2
              go_wp2_with fail
              refine CS3.out.mono ?_
              rintro e x3 ⟨rfl, hg3⟩
              have Z4 := Lib.hid (Y4.out.kept hg3 fun g h => .inl (Y3.out.at g h).2)
              have ZK := Lib.hid (Y3.out.spoilt YK.out hg3 (by omega) (by omega))
              have hx3 := hg3.size
              have CS4 := Lib.hid (spoilI Z4.out)
              clear hg3
              go_wp2_with fail
              refine CS4.out.mono ?_
              rintro e x4 ⟨rfl, hg4⟩
              have TK := Lib.hid (Z4.out.spoilt ZK.out hg4 (by omega) (by omega))
              clear hg4
              have TW := Lib.hid (show Below w6.heap.size w6 x4 from HBR.out.trans ((show Below wrr.heap.size wrr x4 by have h := TK.out; rw [HS0.out] at h; exact h).mono HBR.out.size))
              go_wp2_with fail
              exact ⟨⟨k + 1, by go_num, by omega, TW⟩, by simp only [intOf]; omega⟩
    · have hk' : ¬ (k : Int) < 2 := by omega
      have HF := Lib.hid (HW0.out.trans (HBR.out.mono HW0.out.size))
      go_wp2
      go_ret
      exact ⟨rfl, HF.out⟩
end Go.Proofs.YtpdcbddofekbcaaGreat
