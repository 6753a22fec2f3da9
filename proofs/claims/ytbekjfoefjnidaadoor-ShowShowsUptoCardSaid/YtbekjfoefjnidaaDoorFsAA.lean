/- rightNode of the reference: all kinds; CheckPattern without names: walked. -/
import Derived.Test.YtbekjfoefjnidaaDoorFsY
import Derived.Test.YtbekjfoefjnidaaDoorFsZ
import Derived.Test.YtbekjfoefjnidaaDoorFsR
import Derived.Test.YtbekjfoefjnidaaDoorFsG
namespace Go.Proofs.YtbekjfoefjnidaaDoor
open Go.RowKit
set_option linter.unusedVariables false
set_option maxRecDepth 100000 in
set_option maxHeartbeats 1000000 in
theorem right34 (t : Tr) (d : ND) (w : World) (hn : NodeAt w w.heap.size t d) :
    Calls Tryd.prog 18 #[d.agg] w fun e w' => e = .returned (.int .i64 (rightE t)) ∧ Below w.heap.size w w' := by
  by_cases hk : 1 ≤ t.kind ∧ t.kind ≤ 18
  · by_cases h2 : t.kind = 2
    · exact right_set t d w hn hk h2
    by_cases h12 : t.kind = 12
    · exact right_rep t d w hn hk h12
    by_cases h11 : t.kind = 11
    · exact right_grp t d w hn hk h11
    by_cases h18 : t.kind = 18
    · exact right_agn t d w hn hk h18
    exact right_oth t d w hn hk h2 h12 h11 h18
  · have HR := Lib.hid (show rightE t = 7 by unfold rightE; rw [if_pos (by omega)])
    obtain ⟨ds, hn⟩ := hn.of
    rw [← hn.kind] at hk
    have HB0 := Lib.hid (ND.box_below w d)
    have HX0 := Lib.hid (BoxN.new w d)
    clear hn
    obtain ⟨dk, dsA, dsn, dsc, dkA, dkn, dkc, dnum, dleast, dmost, dway, dfold⟩ := d
    unfold ND.agg
    unfold ND.box at HB0 HX0
    simp only at HB0 HX0 hk
    obtain ⟨x0, x1, x2, x3, x4, x5, x6, x7, x8⟩ := HX0.out
    by_cases h1 : dk < 1
    · go_enter Tryd.func18, Tryd.ntmps18
      go_wp2_with fail
      go_ret
      rw [HR.out]
      exact ⟨rfl, HB0.out⟩
    · have h2 : 18 < dk := by omega
      clear hk
      go_enter Tryd.func18, Tryd.ntmps18
      go_wp2_with fail
      go_ret
      rw [HR.out]
      exact ⟨rfl, HB0.out⟩
theorem seqE_le0 (l : List Tr) (g : Int) (k : Nat) (h : k < l.length) : seqE (l.drop k) g = if (stepE l[k] g).1 ≠ 0 then stepE l[k] g else seqE (l.drop (k + 1)) (stepE l[k] g).2 := by
  rw [List.drop_eq_getElem_cons h, seqE]
theorem agains_drop (l : List Tr) (g : Int) (k : Nat) (h : k < l.length) : againsBad (l.drop k) g = ((l[k].kind == 18 && !(decide (1 ≤ l[k].num) && decide (l[k].num ≤ g))) || againsBad (l.drop (k + 1)) g) := by
  unfold againsBad
  rw [List.drop_eq_getElem_cons h, List.any_cons]
theorem Tr.nodeAt_of {w w' : World} {B : Nat} {ts : List Tr} {ds : List ND} (h : KidsAt w B ts ds) (hb : Below B w w') (hs : B ≤ w'.heap.size) {k : Nat} (h1 : k < ts.length) (h2 : k < ds.length) : NodeAt w' w'.heap.size ts[k] ds[k] :=
  NodeAt.map (fun r => (r.below hb (Nat.le_refl _)).more hs) _ _ (h.at k h1 h2)
set_option maxRecDepth 100000 in
set_option maxHeartbeats 4000000 in
theorem check22_none (t : Tr) (d : ND) (gr : Int) (nA : Option Addr) (nc : Nat) (w : World) (hn : NodeAt w w.heap.size t d) (hsm : Small t) :
    Calls Tryd.prog 8 #[patV d gr nA 0 nc] w fun e w' => e = .returned (.int .i64 (treeE t gr)) ∧ Below w.heap.size w w' := by
  have HN := Lib.hid hn
  have HP := Lib.hid (PatN.new w d gr nA 0 nc)
  have HB := Lib.hid (patB_below w d gr nA 0 nc)
  have C21 := Lib.hid (tooGreat21 t d (patB w d gr nA 0 nc) (hn.next (patB_below w d gr nA 0 nc)) hsm)
  have C25 := Lib.hid (fun (w1 : World) (h : Below w.heap.size w w1) (hs : sizeT t ≤ 1000) => flat25 t d w1 w.heap.size h.size (hn.keepB h (Nat.le_refl _)) hs)
  have HF := Lib.hid (fine_iff t)
  clear hn
  have HDK := Lib.hid (show d = d from rfl)
  obtain ⟨dk, dsA, dsn, dsc, dkA, dkn, dkc, dnum, dleast, dmost, dway, dfold⟩ := d
  unfold ND.agg at C21 C25
  unfold patV
  unfold patB at HP HB C21
  simp only at HP HB C21 C25 ⊢
  obtain ⟨⟨x0, x1, x2, x3, x4, x5, x6, x7, x8⟩, x9, x10⟩ := HP.out
  cases hg : tooG t
  case true =>
    have HT := Lib.hid (treeE_many (gr := gr) hg)
    rw [hg] at C21
    clear hg
    go_enter Tryd.func8, Tryd.ntmps8
    go_wp2_with (go_at_call 12; refine C21.out.mono ?_; rintro e w1 ⟨rfl, hb⟩; have HB1 := Lib.hid (below_next HB.out hb); clear hb)
    go_ret
    rw [HT.out]
    exact ⟨rfl, HB1.out⟩
  case false =>
    have hs2 : sizeT t ≤ 1000 := by have := (HF.out.2 hg).1; omega
    have HT := Lib.hid (show treeE t gr = if (seqE (flatT t) 0).1 ≠ 0 then (seqE (flatT t) 0).1 else if 20 < (seqE (flatT t) 0).2 then 2 else if gr ≠ (seqE (flatT t) 0).2 then 4 else if againsBad (flatT t) (seqE (flatT t) 0).2 = true then 5 else 0 by unfold treeE; rw [if_neg (by rw [hg]; simp)])
    rw [hg] at C21
    clear hg
    have HFL := Lib.hid (flatT_len t)
    clear x0 x1 x2 x3 x4 x5 x6 x7 x8 x9 x10
    obtain ⟨⟨x0, x1, x2, x3, x4, x5, x6, x7, x8⟩, x9, x10⟩ := HP.out
    go_enter Tryd.func8, Tryd.ntmps8
    go_upto_region 3 with (go_at_call 12; refine C21.out.mono ?_; rintro e w1 ⟨rfl, hb⟩; have HB1 := Lib.hid (below_next HB.out hb); have HP1 := Lib.hid (HP.out.below hb HP.out.1.1); clear x0 x1 x2 x3 x4 x5 x6 x7 x8 x9 x10; obtain ⟨⟨x0, x1, x2, x3, x4, x5, x6, x7, x8⟩, x9, x10⟩ := HP1.out; clear hb)
    have C := Lib.hid (C25.out w1 HB1.out hs2)
    go_upto_region 4 with (fail)
    refine C.out.mono ?_
    rintro en w2 ⟨A, n, c, ds, rfl, hown, hks, hb⟩
    have HR := Lib.hid (Rds.of_own hown)
    have HK := Lib.hid hks
    have HL := Lib.hid (show (flatT t).length = n ∧ ds.length = n by have h1 := own_nds_len hown; have h2 := hks.len; omega)
    have hnn : n ≤ 1000 := by have := HL.out.1; have := HFL.out; omega
    have HB2 := Lib.hid (below_next HB1.out hb)
    have HP2 := Lib.hid (HP1.out.below hb HP1.out.1.1)
    clear hown hks hb C
    obtain ⟨l, hl⟩ : ∃ x, x = flatT t := ⟨_, rfl⟩
    rw [← hl] at HT HK HL
    clear hl
    have HLB := Lib.hid (show w.heap.size ≤ w2.heap.size from HB2.out.size)
    obtain ⟨se, hse⟩ : ∃ x, x = seqE l 0 := ⟨_, rfl⟩
    rw [← hse] at HT
    have HSE := Lib.hid hse
    clear hse
    go_upto_region 6 with (fail)
    go_loopw [4, 5] (fun v i wr => ∃ (k : Nat) (g : Int), k ≤ n ∧ i = .int .i64 k ∧ v = .int .i64 g ∧ (0 ≤ g ∧ g ≤ k) ∧ Hid (se = seqE (l.drop k) g) ∧ Hid (Below w2.heap.size w2 wr)) (fun _ i _ => n - (intOf i).toNat)
    case atStart => exact ⟨0, 0, Nat.zero_le _, rfl, rfl, by omega, Lib.hid HSE.out, Lib.hid (Below.refl _ _)⟩
    case round =>
      obtain ⟨k, g, hk, rfl, rfl, hg, HS, HBW⟩ := hrel
      by_cases hlt : k < n
      · obtain ⟨b1, off1, hl1, hA, hb1, c0, c1, c2, c3, c4, c5, c6, c7⟩ := (HR.out.below HBW.out (Nat.le_refl _)).node_at hlt
        have hkl : k < l.length := by rw [HL.out.1]; exact hlt
        have C := Lib.hid (right34 _ _ wr (Tr.nodeAt_of HK.out (HBW.out.mono HLB.out) (Nat.le_trans HLB.out HBW.out.size) hkl hl1))
        have HKD := Lib.hid (HK.out.kind_at hkl hl1)
        have HST := Lib.hid (HS.out.trans (seqE_le0 l g k hkl))
        have HRS := Lib.hid (show stepE l[k] g = if rightE l[k] ≠ 0 then (rightE l[k], g) else if l[k].kind = 11 then (if l[k].num = g + 1 then (0, g + 1) else (4, g + 1)) else (0, g) from rfl)
        rw [← HKD.out.1, ← HKD.out.2] at HRS
        obtain ⟨e, he⟩ : ∃ x, x = ds[k] := ⟨_, rfl⟩
        rw [← he] at c0 c1 c2 c3 c4 c5 c6 c7 HRS C
        clear he HKD
        obtain ⟨st, hst⟩ : ∃ x, x = stepE l[k] g := ⟨_, rfl⟩
        rw [← hst] at HST HRS
        clear hst
        obtain ⟨r, hr⟩ : ∃ x, x = rightE l[k] := ⟨_, rfl⟩
        rw [← hr] at HRS C
        clear hr
        obtain ⟨ek, esA, esn, esc, ekA, ekn, ekc, enum, eleast, emost, eway, efold⟩ := e
        unfold ND.agg at C
        simp only at C c0 c1 c2 c3 c4 c5 c6 c7 HRS
        have HAA := Lib.hid hA
        subst hA
        have k2 : (k : Int) < (n : Int) := by omega
        have g2 : g + 1 ≤ 1001 := by omega
        have hbl : b1 < wr.heap.size := Nat.lt_of_lt_of_le hb1 HBW.out.size
        by_cases hr : r = 0
        · subst hr
          rw [if_neg (by simp)] at HRS
          by_cases h11 : ek = 11
          · subst h11
            rw [if_pos rfl] at HRS
            by_cases hnum : enum = g + 1
            · rw [if_pos hnum] at HRS
              have HN1 := Lib.hid (show se = seqE (l.drop (k + 1)) (g + 1) by rw [HST.out, HRS.out, if_neg (by simp)])
              have hnb : (enum != g + 1) = false := by simp [hnum]
              subst hnum
              go_wp2_with (go_at_call 18; refine C.out.mono ?_; rintro e w3 ⟨rfl, hb3⟩; have HB3 := Lib.hid (below_next HBW.out hb3); have z0 := (hb3.cell (p := ⟨b1, off1 + k * 8, none⟩) hbl).trans c0; have z3 := (hb3.cell (p := ⟨b1, off1 + k * 8 + 3, none⟩) hbl).trans c3; clear hb3 c0 c1 c2 c3 c4 c5 c6 c7)
              go_roundw
              case rel => exact ⟨k + 1, g + 1, by omega, by go_num, by first | rfl | go_num, by omega, Lib.hid HN1.out, Lib.hid HB3.out⟩
              case measure => simp [intOf]; omega
            · rw [if_neg hnum] at HRS
              have HN1 := Lib.hid (show se = (4, g + 1) by rw [HST.out, HRS.out, if_pos (by simp)])
              have hnb : (enum != g + 1) = true := by simp [hnum]
              go_wp2_with (go_at_call 18; refine C.out.mono ?_; rintro e w3 ⟨rfl, hb3⟩; have HB3 := Lib.hid (below_next HBW.out hb3); have z0 := (hb3.cell (p := ⟨b1, off1 + k * 8, none⟩) hbl).trans c0; have z3 := (hb3.cell (p := ⟨b1, off1 + k * 8 + 3, none⟩) hbl).trans c3; clear hb3 c0 c1 c2 c3 c4 c5 c6 c7)
              go_ret
              rw [HT.out, HN1.out, if_pos (by simp)]
              exact ⟨rfl, below_next HB2.out HB3.out⟩
          · rw [if_neg h11] at HRS
            have HN1 := Lib.hid (show se = seqE (l.drop (k + 1)) g by rw [HST.out, HRS.out, if_neg (by simp)])
            have hkb : (ek == 11) = false := beq_eq_false_iff_ne.2 h11
            go_wp2_with (go_at_call 18; refine C.out.mono ?_; rintro e w3 ⟨rfl, hb3⟩; have HB3 := Lib.hid (below_next HBW.out hb3); have z0 := (hb3.cell (p := ⟨b1, off1 + k * 8, none⟩) hbl).trans c0; have z3 := (hb3.cell (p := ⟨b1, off1 + k * 8 + 3, none⟩) hbl).trans c3; clear hb3 c0 c1 c2 c3 c4 c5 c6 c7)
            go_roundw
            case rel => exact ⟨k + 1, g, by omega, by go_num, by first | rfl | go_num, by omega, Lib.hid HN1.out, Lib.hid HB3.out⟩
            case measure => simp [intOf]; omega
        · rw [if_pos hr] at HRS
          have HN1 := Lib.hid (show se = (r, g) by rw [HST.out, HRS.out, if_pos hr])
          have hkb : (r == 0) = false := beq_eq_false_iff_ne.2 hr
          have hkb2 : (r != 0) = true := bne_iff_ne.2 hr
          go_wp2_with (go_at_call 18; refine C.out.mono ?_; rintro e w3 ⟨rfl, hb3⟩; have HB3 := Lib.hid (below_next HBW.out hb3); have z0 := (hb3.cell (p := ⟨b1, off1 + k * 8, none⟩) hbl).trans c0; have z3 := (hb3.cell (p := ⟨b1, off1 + k * 8 + 3, none⟩) hbl).trans c3; clear hb3 c0 c1 c2 c3 c4 c5 c6 c7)
          all_goals
            go_ret
            rw [HT.out, HN1.out, if_pos hr]
            exact ⟨rfl, below_next HB2.out HB3.out⟩
      · obtain rfl : k = n := by omega
        have HN1 := Lib.hid (show se = (0, g) by rw [HS.out, List.drop_eq_nil_of_le (by rw [HL.out.1]; exact Nat.le_refl _)]; rfl)
        rw [HN1.out, if_neg (by simp)] at HT
        simp only at HT
        have HBE := Lib.hid (below_next HB2.out HBW.out)
        have HP3 := Lib.hid (HP2.out.below HBW.out HP2.out.1.1)
        obtain ⟨⟨y0, y1, y2, y3, y4, y5, y6, y7, y8⟩, y9, y10⟩ := HP3.out
        clear x0 x1 x2 x3 x4 x5 x6 x7 x8 x9 x10
        by_cases hG : 20 < g
        · rw [if_pos hG] at HT
          go_wp2_with fail
          go_ret
          rw [HT.out]
          exact ⟨rfl, HBE.out⟩
        · rw [if_neg hG] at HT
          by_cases hgr : gr = g
          · rw [if_neg (by rw [hgr]; simp)] at HT
            have hgb : (gr != g) = false := by simp [hgr]
            subst hgr
            have HR3 := Lib.hid (HR.out.below HBW.out (Nat.le_refl _))
            go_wp2_with fail
            go_loopw [7] (fun i w4 => ∃ (j : Nat), j ≤ k ∧ i = .int .i64 j ∧ Hid (againsBad l gr = againsBad (l.drop j) gr) ∧ wr = w4) (fun i _ => k - (intOf i).toNat)
            case atStart => exact ⟨0, Nat.zero_le _, rfl, Lib.hid rfl, rfl⟩
            case round =>
              obtain ⟨j, hj, rfl, HJ, rfl⟩ := hrel
              by_cases hlt : j < k
              · obtain ⟨b1, off1, hl1, hA, hb1, c0, c1, c2, c3, c4, c5, c6, c7⟩ := HR3.out.node_at hlt
                have hkl : j < l.length := by rw [HL.out.1]; exact hlt
                have HKD := Lib.hid (HK.out.kind_at hkl hl1)
                have HD := Lib.hid (HJ.out.trans (agains_drop l gr j hkl))
                rw [← HKD.out.1, ← HKD.out.2] at HD
                obtain ⟨e, he⟩ : ∃ x, x = ds[j] := ⟨_, rfl⟩
                rw [← he] at c0 c1 c2 c3 c4 c5 c6 c7 HD
                clear he HKD
                obtain ⟨ek, esA, esn, esc, ekA, ekn, ekc, enum, eleast, emost, eway, efold⟩ := e
                simp only at c0 c1 c2 c3 c4 c5 c6 c7 HD
                have HAA := Lib.hid hA
                subst hA
                have k2 : (j : Int) < (k : Int) := by omega
                by_cases h18 : ek = 18
                · subst h18
                  have C := Lib.hid (fun w => between_keep enum 1 gr w)
                  rw [show ((18 : Int) == 18) = true from rfl, Bool.true_and] at HD
                  obtain ⟨b, hb⟩ : ∃ b, b = (decide (1 ≤ enum) && decide (enum ≤ gr)) := ⟨_, rfl⟩
                  rw [← hb] at HD C
                  clear hb
                  cases b
                  · go_wp2_with (go_at_call 19; refine (C.out _).mono ?_; rintro e w' ⟨rfl, rfl⟩)
                    go_ret
                    rw [HT.out, HD.out, if_pos (by simp)]
                    exact ⟨rfl, HBE.out⟩
                  · go_wp2_with (go_at_call 19; refine (C.out _).mono ?_; rintro e w' ⟨rfl, rfl⟩)
                    go_roundw
                    case rel => exact ⟨j + 1, by omega, by go_num, Lib.hid (by rw [HD.out]; simp), by first | rfl | trivial⟩
                    case measure => simp [intOf]; omega
                · have hkb : (ek == 18) = false := beq_eq_false_iff_ne.2 h18
                  rw [hkb, Bool.false_and, Bool.false_or] at HD
                  go_wp2_with fail
                  go_roundw
                  case rel => exact ⟨j + 1, by omega, by go_num, Lib.hid HD.out, by first | rfl | trivial⟩
                  case measure => simp [intOf]; omega
              · obtain rfl : j = k := by omega
                have HZ := Lib.hid (show againsBad l gr = false by rw [HJ.out, List.drop_eq_nil_of_le (by rw [HL.out.1]; exact Nat.le_refl _)]; rfl)
                rw [HZ.out, if_neg (by simp)] at HT
                go_wp2_with fail
                go_loopw [8] (fun i w4 => i = .int .i64 0 ∧ wr = w4) (fun _ _ => 0)
                case atStart => exact ⟨rfl, rfl⟩
                case round =>
                  obtain ⟨rfl, rfl⟩ := hrel
                  go_wp2_with fail
                  go_loopw [9] (fun i w4 => i = .int .i64 0 ∧ wr = w4) (fun _ _ => 0)
                  case atStart => exact ⟨rfl, rfl⟩
                  case round =>
                    obtain ⟨rfl, rfl⟩ := hrel
                    go_wp2_with fail
                    go_loopw [10] (fun i w4 => i = .int .i64 0 ∧ wr = w4) (fun _ _ => 0)
                    case atStart => exact ⟨rfl, rfl⟩
                    case round =>
                      obtain ⟨rfl, rfl⟩ := hrel
                      go_wp2_with fail
                      go_loopw [12] (fun i w4 => i = .int .i64 1 ∧ wr = w4) (fun _ _ => 0)
                      case atStart => exact ⟨rfl, rfl⟩
                      case round =>
                        obtain ⟨rfl, rfl⟩ := hrel
                        go_wp2_with fail
                        go_ret
                        rw [HT.out]
                        exact ⟨rfl, HBE.out⟩
          · rw [if_pos hgr] at HT
            have hgb : (gr != g) = true := by simp [hgr]
            go_wp2_with fail
            go_ret
            rw [HT.out]
            exact ⟨rfl, HBE.out⟩
end Go.Proofs.YtbekjfoefjnidaaDoor
