/- CheckPattern of the reference: walked, names and all. -/
import Derived.Test.YtbekjfoefjnidaaDoorFsAA
import Derived.Test.YtbekjfoefjnidaaDoorFsAN
import Derived.Deep.CutRange
namespace Go.Proofs.YtbekjfoefjnidaaDoor
open Go.RowKit
set_option linter.unusedVariables false
theorem text_eq (a b : ByteArray) : a.toList = b.toList ↔ a = b := by
  rw [ByteArray.toList_eq, ByteArray.toList_eq]
  exact ⟨fun h => ByteArray.ext (Array.toList_inj.1 h), fun h => by rw [h]⟩
theorem text_beq {a b : ByteArray} (h : a = b) : (a.toList == b.toList) = true := by rw [beq_iff_eq]; exact (text_eq a b).2 h
theorem text_bne {a b : ByteArray} (h : ¬ a = b) : (a.toList == b.toList) = false := by rw [beq_eq_false_iff_ne]; exact fun e => h ((text_eq a b).1 e)
theorem twice_at {l : List (ByteArray × Int)} {i j : Nat} (hij : i < j) (hj : j < l.length) (h : (l[i]'(by omega)).1 = l[j].1 ∨ (l[i]'(by omega)).2 = l[j].2) : Twice l := by
  rintro ⟨h1, h2⟩
  rw [List.Nodup, List.pairwise_iff_getElem] at h1 h2
  rcases h with h | h
  · exact h1 i j (by simp; omega) (by simpa using hj) hij (by simpa using h)
  · exact h2 i j (by simp; omega) (by simpa using hj) hij (by simpa using h)
def Apart (l : List (ByteArray × Int)) (i j : Nat) : Prop := ∀ (hi : i < l.length) (hj : j < l.length), l[i].1 ≠ l[j].1 ∧ l[i].2 ≠ l[j].2
theorem apart_mk {l : List (ByteArray × Int)} {i j : Nat} (hi : i < l.length) (hj : j < l.length) (h : l[i].1 ≠ l[j].1 ∧ l[i].2 ≠ l[j].2) : Apart l i j := fun _ _ => h
theorem apart_succ {l : List (ByteArray × Int)} {m j : Nat} (h : ∀ a, a < m → Apart l a j) (h2 : Apart l m j) : ∀ a, a < m + 1 → Apart l a j := fun a ha => by
  rcases Nat.lt_succ_iff_lt_or_eq.1 ha with h1 | rfl
  · exact h a h1
  · exact h2
theorem apart_next {l : List (ByteArray × Int)} {j : Nat} (h : ∀ a b, a < b → b < j → Apart l a b) (h2 : ∀ a, a < j → Apart l a j) : ∀ a b, a < b → b < j + 1 → Apart l a b := fun a b hab hb => by
  rcases Nat.lt_succ_iff_lt_or_eq.1 hb with h1 | rfl
  · exact h a b hab h1
  · exact h2 a hab
theorem not_twice {l : List (ByteArray × Int)} (h : ∀ a b, a < b → b < l.length → Apart l a b) : ¬ Twice l := by
  unfold Twice
  rw [Classical.not_not, List.Nodup, List.Nodup, List.pairwise_iff_getElem, List.pairwise_iff_getElem]
  refine ⟨fun i j hi hj hij => ?_, fun i j hi hj hij => ?_⟩
  · rw [List.length_map] at hi hj
    simpa using (h i j hij hj hi hj).1
  · rw [List.length_map] at hi hj
    simpa using (h i j hij hj hi hj).2
set_option maxRecDepth 100000 in
set_option maxHeartbeats 4000000 in
theorem check22 (t : Tr) (d : ND) (gr : Int) (nA : Option Addr) (nn nc : Nat) (ns : List (ByteArray × Int)) (w : World) (hn : NodeAt w w.heap.size t d) (hsm : Small t) (hl : NamesAt w w.heap.size nA nn ns) (hnc : nn ≤ nc) (hcm : nc ≤ maxLen) (hnm : nn < maxLen) (htx : ∀ x ∈ ns, x.1.size ≤ 100000000) :
    Calls Tryd.prog 8 #[patV d gr nA nn nc] w fun e w' => e = .returned (.int .i64 (patE t gr ns)) ∧ Below w.heap.size w w' := by
  have HN := Lib.hid hn
  have HP := Lib.hid (PatN.new w d gr nA nn nc)
  have HB := Lib.hid (patB_below w d gr nA nn nc)
  have C21 := Lib.hid (tooGreat21 t d (patB w d gr nA nn nc) (hn.next (patB_below w d gr nA nn nc)) hsm)
  have C25 := Lib.hid (fun (w1 : World) (h : Below w.heap.size w w1) (hs : sizeT t ≤ 1000) => flat25 t d w1 w.heap.size h.size (hn.keepB h (Nat.le_refl _)) hs)
  have HF := Lib.hid (fine_iff t)
  have HNS := Lib.hid hl
  have HNL := Lib.hid hl.len
  have HTX := Lib.hid htx
  unfold maxLen at hcm hnm
  clear hn hl htx
  have HDK := Lib.hid (show d = d from rfl)
  obtain ⟨dk, dsA, dsn, dsc, dkA, dkn, dkc, dnum, dleast, dmost, dway, dfold⟩ := d
  unfold ND.agg at C21 C25
  unfold patV
  unfold patB at HP HB C21
  simp only at HP HB C21 C25 ⊢
  obtain ⟨⟨x0, x1, x2, x3, x4, x5, x6, x7, x8⟩, x9, x10⟩ := HP.out
  cases hg : tooG t
  case true =>
    have HT := Lib.hid (treeE_many (gr := gr) hg)
    rw [hg] at C21
    clear hg
    go_enter Tryd.func8, Tryd.ntmps8
    go_wp2_with (go_at_call 12; refine C21.out.mono ?_; rintro e w1 ⟨rfl, hb⟩; have HB1 := Lib.hid (below_next HB.out hb); clear hb)
    go_ret
    rw [patE_bad HT.out (by decide)]
    exact ⟨rfl, HB1.out⟩
  case false =>
    have hs2 : sizeT t ≤ 1000 := by have := (HF.out.2 hg).1; omega
    have HT := Lib.hid (show treeE t gr = if (seqE (flatT t) 0).1 ≠ 0 then (seqE (flatT t) 0).1 else if 20 < (seqE (flatT t) 0).2 then 2 else if gr ≠ (seqE (flatT t) 0).2 then 4 else if againsBad (flatT t) (seqE (flatT t) 0).2 = true then 5 else 0 by unfold treeE; rw [if_neg (by rw [hg]; simp)])
    rw [hg] at C21
    clear hg
    have HFL := Lib.hid (flatT_len t)
    clear x0 x1 x2 x3 x4 x5 x6 x7 x8 x9 x10
    obtain ⟨⟨x0, x1, x2, x3, x4, x5, x6, x7, x8⟩, x9, x10⟩ := HP.out
    go_enter Tryd.func8, Tryd.ntmps8
    go_upto_region 3 with (go_at_call 12; refine C21.out.mono ?_; rintro e w1 ⟨rfl, hb⟩; have HB1 := Lib.hid (below_next HB.out hb); have HP1 := Lib.hid (HP.out.below hb HP.out.1.1); clear x0 x1 x2 x3 x4 x5 x6 x7 x8 x9 x10; obtain ⟨⟨x0, x1, x2, x3, x4, x5, x6, x7, x8⟩, x9, x10⟩ := HP1.out; clear hb)
    have C := Lib.hid (C25.out w1 HB1.out hs2)
    go_upto_region 4 with (fail)
    refine C.out.mono ?_
    rintro en w2 ⟨A, n, c, ds, rfl, hown, hks, hb⟩
    have HR := Lib.hid (Rds.of_own hown)
    have HK := Lib.hid hks
    have HL := Lib.hid (show (flatT t).length = n ∧ ds.length = n by have h1 := own_nds_len hown; have h2 := hks.len; omega)
    have hnn : n ≤ 1000 := by have := HL.out.1; have := HFL.out; omega
    have HB2 := Lib.hid (below_next HB1.out hb)
    have HP2 := Lib.hid (HP1.out.below hb HP1.out.1.1)
    clear hown hks hb C
    obtain ⟨l, hl⟩ : ∃ x, x = flatT t := ⟨_, rfl⟩
    rw [← hl] at HT HK HL
    clear hl
    have HLB := Lib.hid (show w.heap.size ≤ w2.heap.size from HB2.out.size)
    obtain ⟨se, hse⟩ : ∃ x, x = seqE l 0 := ⟨_, rfl⟩
    rw [← hse] at HT
    have HSE := Lib.hid hse
    clear hse
    go_upto_region 6 with (fail)
    go_loopw [4, 5] (fun v i wr => ∃ (k : Nat) (g : Int), k ≤ n ∧ i = .int .i64 k ∧ v = .int .i64 g ∧ (0 ≤ g ∧ g ≤ k) ∧ Hid (se = seqE (l.drop k) g) ∧ Hid (Below w2.heap.size w2 wr)) (fun _ i _ => n - (intOf i).toNat)
    case atStart => exact ⟨0, 0, Nat.zero_le _, rfl, rfl, by omega, Lib.hid HSE.out, Lib.hid (Below.refl _ _)⟩
    case round =>
      obtain ⟨k, g, hk, rfl, rfl, hg, HS, HBW⟩ := hrel
      by_cases hlt : k < n
      · obtain ⟨b1, off1, hl1, hA, hb1, c0, c1, c2, c3, c4, c5, c6, c7⟩ := (HR.out.below HBW.out (Nat.le_refl _)).node_at hlt
        have hkl : k < l.length := by rw [HL.out.1]; exact hlt
        have C := Lib.hid (right34 _ _ wr (Tr.nodeAt_of HK.out (HBW.out.mono HLB.out) (Nat.le_trans HLB.out HBW.out.size) hkl hl1))
        have HKD := Lib.hid (HK.out.kind_at hkl hl1)
        have HST := Lib.hid (HS.out.trans (seqE_le0 l g k hkl))
        have HRS := Lib.hid (show stepE l[k] g = if rightE l[k] ≠ 0 then (rightE l[k], g) else if l[k].kind = 11 then (if l[k].num = g + 1 then (0, g + 1) else (4, g + 1)) else (0, g) from rfl)
        rw [← HKD.out.1, ← HKD.out.2] at HRS
        obtain ⟨e, he⟩ : ∃ x, x = ds[k] := ⟨_, rfl⟩
        rw [← he] at c0 c1 c2 c3 c4 c5 c6 c7 HRS C
        clear he HKD
        obtain ⟨st, hst⟩ : ∃ x, x = stepE l[k] g := ⟨_, rfl⟩
        rw [← hst] at HST HRS
        clear hst
        obtain ⟨r, hr⟩ : ∃ x, x = rightE l[k] := ⟨_, rfl⟩
        rw [← hr] at HRS C
        clear hr
        obtain ⟨ek, esA, esn, esc, ekA, ekn, ekc, enum, eleast, emost, eway, efold⟩ := e
        unfold ND.agg at C
        simp only at C c0 c1 c2 c3 c4 c5 c6 c7 HRS
        have HAA := Lib.hid hA
        subst hA
        have k2 : (k : Int) < (n : Int) := by omega
        have g2 : g + 1 ≤ 1001 := by omega
        have hbl : b1 < wr.heap.size := Nat.lt_of_lt_of_le hb1 HBW.out.size
        by_cases hr : r = 0
        · subst hr
          rw [if_neg (by simp)] at HRS
          by_cases h11 : ek = 11
          · subst h11
            rw [if_pos rfl] at HRS
            by_cases hnum : enum = g + 1
            · rw [if_pos hnum] at HRS
              have HN1 := Lib.hid (show se = seqE (l.drop (k + 1)) (g + 1) by rw [HST.out, HRS.out, if_neg (by simp)])
              have hnb : (enum != g + 1) = false := by simp [hnum]
              subst hnum
              go_wp2_with (go_at_call 18; refine C.out.mono ?_; rintro e w3 ⟨rfl, hb3⟩; have HB3 := Lib.hid (below_next HBW.out hb3); have z0 := (hb3.cell (p := ⟨b1, off1 + k * 8, none⟩) hbl).trans c0; have z3 := (hb3.cell (p := ⟨b1, off1 + k * 8 + 3, none⟩) hbl).trans c3; clear hb3 c0 c1 c2 c3 c4 c5 c6 c7)
              go_roundw
              case rel => exact ⟨k + 1, g + 1, by omega, by go_num, by first | rfl | go_num, by omega, Lib.hid HN1.out, Lib.hid HB3.out⟩
              case measure => simp [intOf]; omega
            · rw [if_neg hnum] at HRS
              have HN1 := Lib.hid (show se = (4, g + 1) by rw [HST.out, HRS.out, if_pos (by simp)])
              have hnb : (enum != g + 1) = true := by simp [hnum]
              go_wp2_with (go_at_call 18; refine C.out.mono ?_; rintro e w3 ⟨rfl, hb3⟩; have HB3 := Lib.hid (below_next HBW.out hb3); have z0 := (hb3.cell (p := ⟨b1, off1 + k * 8, none⟩) hbl).trans c0; have z3 := (hb3.cell (p := ⟨b1, off1 + k * 8 + 3, none⟩) hbl).trans c3; clear hb3 c0 c1 c2 c3 c4 c5 c6 c7)
              go_ret
              rw [patE_bad (e := 4) (by rw [HT.out, HN1.out, if_pos (by simp)]) (by decide)]
              exact ⟨rfl, below_next HB2.out HB3.out⟩
          · rw [if_neg h11] at HRS
            have HN1 := Lib.hid (show se = seqE (l.drop (k + 1)) g by rw [HST.out, HRS.out, if_neg (by simp)])
            have hkb : (ek == 11) = false := beq_eq_false_iff_ne.2 h11
            go_wp2_with (go_at_call 18; refine C.out.mono ?_; rintro e w3 ⟨rfl, hb3⟩; have HB3 := Lib.hid (below_next HBW.out hb3); have z0 := (hb3.cell (p := ⟨b1, off1 + k * 8, none⟩) hbl).trans c0; have z3 := (hb3.cell (p := ⟨b1, off1 + k * 8 + 3, none⟩) hbl).trans c3; clear hb3 c0 c1 c2 c3 c4 c5 c6 c7)
            go_roundw
            case rel => exact ⟨k + 1, g, by omega, by go_num, by first | rfl | go_num, by omega, Lib.hid HN1.out, Lib.hid HB3.out⟩
            case measure => simp [intOf]; omega
        · rw [if_pos hr] at HRS
          have HN1 := Lib.hid (show se = (r, g) by rw [HST.out, HRS.out, if_pos hr])
          have hkb : (r == 0) = false := beq_eq_false_iff_ne.2 hr
          have hkb2 : (r != 0) = true := bne_iff_ne.2 hr
          go_wp2_with (go_at_call 18; refine C.out.mono ?_; rintro e w3 ⟨rfl, hb3⟩; have HB3 := Lib.hid (below_next HBW.out hb3); have z0 := (hb3.cell (p := ⟨b1, off1 + k * 8, none⟩) hbl).trans c0; have z3 := (hb3.cell (p := ⟨b1, off1 + k * 8 + 3, none⟩) hbl).trans c3; clear hb3 c0 c1 c2 c3 c4 c5 c6 c7)
          all_goals
            go_ret
            rw [patE_bad (e := r) (by rw [HT.out, HN1.out, if_pos hr]) hr]
            exact ⟨rfl, below_next HB2.out HB3.out⟩
      · obtain rfl : k = n := by omega
        have HN1 := Lib.hid (show se = (0, g) by rw [HS.out, List.drop_eq_nil_of_le (by rw [HL.out.1]; exact Nat.le_refl _)]; rfl)
        rw [HN1.out, if_neg (by simp)] at HT
        simp only at HT
        have HBE := Lib.hid (below_next HB2.out HBW.out)
        have HP3 := Lib.hid (HP2.out.below HBW.out HP2.out.1.1)
        obtain ⟨⟨y0, y1, y2, y3, y4, y5, y6, y7, y8⟩, y9, y10⟩ := HP3.out
        clear x0 x1 x2 x3 x4 x5 x6 x7 x8 x9 x10
        by_cases hG : 20 < g
        · rw [if_pos hG] at HT
          go_wp2_with fail
          go_ret
          rw [patE_bad HT.out (by decide)]
          exact ⟨rfl, HBE.out⟩
        · rw [if_neg hG] at HT
          by_cases hgr : gr = g
          · rw [if_neg (by rw [hgr]; simp)] at HT
            have hgb : (gr != g) = false := by simp [hgr]
            subst hgr
            have HR3 := Lib.hid (HR.out.below HBW.out (Nat.le_refl _))
            go_wp2_with fail
            go_loopw [7] (fun i w4 => ∃ (j : Nat), j ≤ k ∧ i = .int .i64 j ∧ Hid (againsBad l gr = againsBad (l.drop j) gr) ∧ wr = w4) (fun i _ => k - (intOf i).toNat)
            case atStart => exact ⟨0, Nat.zero_le _, rfl, Lib.hid rfl, rfl⟩
            case round =>
              obtain ⟨j, hj, rfl, HJ, rfl⟩ := hrel
              by_cases hlt : j < k
              · obtain ⟨b1, off1, hl1, hA, hb1, c0, c1, c2, c3, c4, c5, c6, c7⟩ := HR3.out.node_at hlt
                have hkl : j < l.length := by rw [HL.out.1]; exact hlt
                have HKD := Lib.hid (HK.out.kind_at hkl hl1)
                have HD := Lib.hid (HJ.out.trans (agains_drop l gr j hkl))
                rw [← HKD.out.1, ← HKD.out.2] at HD
                obtain ⟨e, he⟩ : ∃ x, x = ds[j] := ⟨_, rfl⟩
                rw [← he] at c0 c1 c2 c3 c4 c5 c6 c7 HD
                clear he HKD
                obtain ⟨ek, esA, esn, esc, ekA, ekn, ekc, enum, eleast, emost, eway, efold⟩ := e
                simp only at c0 c1 c2 c3 c4 c5 c6 c7 HD
                have HAA := Lib.hid hA
                subst hA
                have k2 : (j : Int) < (k : Int) := by omega
                by_cases h18 : ek = 18
                · subst h18
                  have C := Lib.hid (fun w => between_keep enum 1 gr w)
                  rw [show ((18 : Int) == 18) = true from rfl, Bool.true_and] at HD
                  obtain ⟨b, hb⟩ : ∃ b, b = (decide (1 ≤ enum) && decide (enum ≤ gr)) := ⟨_, rfl⟩
                  rw [← hb] at HD C
                  clear hb
                  cases b
                  · go_wp2_with (go_at_call 19; refine (C.out _).mono ?_; rintro e w' ⟨rfl, rfl⟩)
                    go_ret
                    rw [patE_bad (e := 5) (by rw [HT.out, HD.out, if_pos (by simp)]) (by decide)]
                    exact ⟨rfl, HBE.out⟩
                  · go_wp2_with (go_at_call 19; refine (C.out _).mono ?_; rintro e w' ⟨rfl, rfl⟩)
                    go_roundw
                    case rel => exact ⟨j + 1, by omega, by go_num, Lib.hid (by rw [HD.out]; simp), by first | rfl | trivial⟩
                    case measure => simp [intOf]; omega
                · have hkb : (ek == 18) = false := beq_eq_false_iff_ne.2 h18
                  rw [hkb, Bool.false_and, Bool.false_or] at HD
                  go_wp2_with fail
                  go_roundw
                  case rel => exact ⟨j + 1, by omega, by go_num, Lib.hid HD.out, by first | rfl | trivial⟩
                  case measure => simp [intOf]; omega
              · obtain rfl : j = k := by omega
                have HZ := Lib.hid (show againsBad l gr = false by rw [HJ.out, List.drop_eq_nil_of_le (by rw [HL.out.1]; exact Nat.le_refl _)]; rfl)
                rw [HZ.out, if_neg (by simp)] at HT
                have HI := Lib.hid (patE_ok (l := ns) HT.out)
                clear HT HJ HR3 HK HL HR HS HSE
                go_wp2_with fail
                obtain ⟨V, rfl⟩ : ∃ V, V = wr := ⟨_, rfl⟩
                clear y0 y1 y2 y3 y4 y5 y6 y7 y8 y9 y10 HBW
                have HNV := Lib.hid ((HNS.out.below HBE.out (Nat.le_refl _)).more HBE.out.size)
                have hwV : w.heap.size < V.heap.size := HP3.out.1.1
                go_loopw [8] (fun i w4 => ∃ m : Nat, m ≤ nn ∧ i = .int .i64 m ∧ Hid ((ns.take m).any (numOut gr) = false) ∧ Hid (Below V.heap.size V w4)) (fun i _ => nn - (intOf i).toNat)
                case atStart => exact ⟨0, Nat.zero_le _, rfl, Lib.hid (by simp), Lib.hid (Below.refl _ _)⟩
                case round =>
                  obtain ⟨m, hm, rfl, HO, HW⟩ := hrel
                  have hsz := HW.out.size
                  obtain ⟨y8, y9⟩ := HP3.out.gn HW.out hwV
                  by_cases hmn : m < nn
                  · obtain ⟨nb, noff, hkl, hA, hnb, hc1, hc2⟩ := (HNV.out.below HW.out (Nat.le_refl _)).at hmn
                    have HGO := Lib.hid (any_take hkl HO.out)
                    have HBAD := Lib.hid (fun h : numOut gr ns[m] = true => HI.out.trans (namesE_out (any_at hkl h)))
                    obtain ⟨p, hp⟩ : ∃ p, p = ns[m] := ⟨_, rfl⟩
                    rw [← hp] at hc1 hc2 HGO HBAD
                    clear hp
                    obtain ⟨xs, xn⟩ := p
                    simp only at hc1 hc2
                    unfold numOut at HGO HBAD
                    simp only at HGO HBAD
                    subst hA
                    have hi1 : (0 : Int) ≤ (m : Int) := by omega
                    have hi2 : (m : Int) < (nn : Int) := by omega
                    have C := Lib.hid (fun w => between_keep xn 1 gr w)
                    obtain ⟨b, hb⟩ : ∃ b, b = (decide (1 ≤ xn) && decide (xn ≤ gr)) := ⟨_, rfl⟩
                    have HBB := Lib.hid hb
                    rw [← hb] at C
                    clear hb
                    cases b
                    · go_wp2_with (go_at_call 19; refine (C.out _).mono ?_; rintro e w' ⟨rfl, rfl⟩)
                      go_ret
                      exact ⟨ret_int (HBAD.out (by have := HBB.out; simp at this ⊢; omega)).symm, below_next HBE.out HW.out⟩
                    · go_wp2_with (go_at_call 19; refine (C.out _).mono ?_; rintro e w' ⟨rfl, rfl⟩)
                      go_roundw
                      case rel => exact ⟨m + 1, by omega, by go_num, Lib.hid (HGO.out (by have := HBB.out; simp at this ⊢; omega)), HW⟩
                      case measure => simp [intOf]; omega
                  · obtain rfl : nn = m := by omega
                    rw [List.take_of_length_le (by rw [HNL.out]; exact Nat.le_refl _)] at HO
                    have HI1 := Lib.hid (HI.out.trans (namesE_in HO.out))
                    clear HI HO
                    go_wp2_with fail
                    go_loopw [9] (fun i w4 => ∃ m : Nat, m ≤ nn ∧ i = .int .i64 m ∧ Hid ((ns.take m).any (fun n => !isNm n.1) = false) ∧ Hid (Below V.heap.size V w4)) (fun i _ => nn - (intOf i).toNat)
                    case atStart => exact ⟨0, Nat.zero_le _, rfl, Lib.hid (by simp), HW⟩
                    case round =>
                      clear y8 y9 hsz HW
                      obtain ⟨m, hm, rfl, HO, HW⟩ := hrel
                      have hsz := HW.out.size
                      obtain ⟨y8, y9⟩ := HP3.out.gn HW.out hwV
                      by_cases hmn : m < nn
                      · obtain ⟨nb, noff, hkl, hA, hnb, hc1, hc2⟩ := (HNV.out.below HW.out (Nat.le_refl _)).at hmn
                        have HGO := Lib.hid (any_take hkl HO.out)
                        have HBAD := Lib.hid (any_at (p := fun n => !isNm n.1) hkl)
                        have htx := HTX.out _ (List.getElem_mem hkl)
                        obtain ⟨p, hp⟩ : ∃ p, p = ns[m] := ⟨_, rfl⟩
                        rw [← hp] at hc1 hc2 HGO HBAD htx
                        clear hp
                        obtain ⟨xs, xn⟩ := p
                        simp only at hc1 hc2 htx HGO HBAD
                        subst hA
                        have hi1 : (0 : Int) ≤ (m : Int) := by omega
                        have hi2 : (m : Int) < (nn : Int) := by omega
                        have C := Lib.hid (isName35 xs wr htx)
                        clear htx
                        obtain ⟨b, hb⟩ : ∃ b, b = isNm xs := ⟨_, rfl⟩
                        rw [← hb] at C HGO HBAD
                        clear hb
                        cases b
                        · go_wp2_with (go_at_call 20; refine C.out.mono ?_; rintro e w3 ⟨rfl, hb3⟩; have HB3 := Lib.hid hb3; clear hb3)
                          go_ret
                          exact ⟨ret_int (by rw [HI1.out, if_pos (HBAD.out rfl)]), below_next HBE.out (below_next HW.out HB3.out)⟩
                        · go_wp2_with (go_at_call 20; refine C.out.mono ?_; rintro e w3 ⟨rfl, hb3⟩; have HB3 := Lib.hid hb3; clear hb3)
                          go_roundw
                          case rel => exact ⟨m + 1, by omega, by go_num, Lib.hid (HGO.out rfl), Lib.hid (below_next HW.out HB3.out)⟩
                          case measure => simp [intOf]; omega
                      · obtain rfl : nn = m := by omega
                        rw [List.take_of_length_le (by rw [HNL.out]; exact Nat.le_refl _)] at HO
                        have HI2 := Lib.hid (HI1.out.trans (if_neg (by rw [HO.out]; simp)))
                        clear HI1 HO
                        go_wp2_with fail
                        go_loopw [10] (fun i w4 => ∃ m : Nat, m ≤ nn ∧ i = .int .i64 m ∧ Hid (∀ a b, a < b → b < m → Apart ns a b) ∧ Hid (Below V.heap.size V w4)) (fun i _ => nn - (intOf i).toNat)
                        case atStart => exact ⟨0, Nat.zero_le _, rfl, Lib.hid (fun a b h1 h2 => absurd h2 (Nat.not_lt_zero b)), HW⟩
                        case round =>
                          clear y8 y9 hsz HW
                          obtain ⟨j, hj, rfl, HO, HW⟩ := hrel
                          have hsz := HW.out.size
                          obtain ⟨y8, y9⟩ := HP3.out.gn HW.out hwV
                          by_cases hjn : j < nn
                          · have i1 : (0 : Int) ≤ (j : Int) := by omega
                            have i2 : (j : Int) < (nn : Int) := by omega
                            go_wp2_with fail
                            go_loopw [11] (fun i w4 => ∃ m : Nat, m ≤ j ∧ i = .int .i64 m ∧ Hid (∀ a, a < m → Apart ns a j) ∧ Hid (Below V.heap.size V w4)) (fun i _ => j - (intOf i).toNat)
                            case atStart => exact ⟨0, Nat.zero_le _, rfl, Lib.hid (fun a h2 => absurd h2 (Nat.not_lt_zero a)), HW⟩
                            case round =>
                              clear y8 y9 hsz HW
                              obtain ⟨m, hm, rfl, HO2, HW⟩ := hrel
                              have hsz := HW.out.size
                              obtain ⟨y8, y9⟩ := HP3.out.gn HW.out hwV
                              by_cases hmj : m < j
                              · obtain ⟨nb, noff, hkl, hA, hnb, hc1, hc2⟩ := (HNV.out.below HW.out (Nat.le_refl _)).at (k := m) (by omega)
                                obtain ⟨nb2, noff2, hkl2, hA2, hnb2, hd1, hd2⟩ := (HNV.out.below HW.out (Nat.le_refl _)).at hjn
                                subst hA
                                injection hA2 with hA2
                                injection hA2 with e1 e2
                                subst e1 e2
                                have HBAD := Lib.hid (fun h => HI2.out.trans (if_pos (twice_at hmj hkl2 h)))
                                have HGO := Lib.hid (fun h => apart_succ HO2.out (apart_mk hkl hkl2 h))
                                obtain ⟨p, hp⟩ : ∃ p, p = ns[m] := ⟨_, rfl⟩
                                obtain ⟨q', hq⟩ : ∃ q, q = ns[j] := ⟨_, rfl⟩
                                rw [← hp] at hc1 hc2 HGO HBAD
                                rw [← hq] at hd1 hd2 HGO HBAD
                                clear hp hq
                                obtain ⟨xs, xn⟩ := p
                                obtain ⟨ys, yn⟩ := q'
                                simp only at hc1 hc2 hd1 hd2 HGO HBAD
                                have i3 : (0 : Int) ≤ (m : Int) := by omega
                                have i4 : (m : Int) < (nn : Int) := by omega
                                have i5 : (m : Int) < (j : Int) := by omega
                                by_cases hte : xs = ys
                                · have HRB := Lib.hid (HBAD.out (.inl hte))
                                  have hbt := text_beq hte
                                  clear hte
                                  go_upto_region 40 with (fail)
                                  go_quiet (fail)
                                  go_wp2_with fail
                                  go_ret
                                  exact ⟨ret_int HRB.out.symm, below_drewN (below_next HBE.out HW.out) _⟩
                                · have hbt := text_bne hte
                                  have HTE := Lib.hid hte
                                  clear hte
                                  by_cases hne : xn = yn
                                  · have HRB := Lib.hid (HBAD.out (.inr hne))
                                    have hbn : (xn == yn) = true := by rw [hne]; simp
                                    clear hne
                                    go_upto_region 40 with (fail)
                                    go_quiet (fail)
                                    go_wp2_with fail
                                    go_ret
                                    exact ⟨ret_int HRB.out.symm, below_drewN (below_next HBE.out HW.out) _⟩
                                  · have hbn : (xn == yn) = false := beq_eq_false_iff_ne.2 hne
                                    have HNE := Lib.hid hne
                                    clear hne
                                    go_upto_region 40 with (fail)
                                    go_quiet (fail)
                                    go_wp2_with fail
                                    go_roundw
                                    case rel => exact ⟨m + 1, by omega, by go_num, Lib.hid (HGO.out ⟨HTE.out, HNE.out⟩), Lib.hid (below_drewN HW.out _)⟩
                                    case measure => simp [intOf]; omega
                              · obtain rfl : j = m := by omega
                                have HO3 := Lib.hid (apart_next HO.out HO2.out)
                                go_wp2_with fail
                                go_roundw
                                case rel => exact ⟨j + 1, by omega, by go_num, HO3, HW⟩
                                case measure => simp [intOf]; omega
                          · obtain rfl : nn = j := by omega
                            have HR := Lib.hid (HI2.out.trans (if_neg (not_twice (by rw [HNL.out]; exact HO.out))))
                            clear HI2 HO
                            go_wp2_with fail
                            go_loopw [12] (fun i w2 => ∃ k : Nat, k ≤ nn ∧ i = .int .i64 (k + 1 : Nat) ∧ Hid (Below V.heap.size V w2) ∧ Hid (OrdTo ns (k + 1))) (fun i _ => nn + 1 - (intOf i).toNat)
                            case atStart => exact ⟨0, Nat.zero_le _, rfl, HW, Lib.hid (OrdTo.one ns)⟩
                            case round =>
                              clear y8 y9 hsz HW
                              obtain ⟨q, hq, rfl, HW, HO⟩ := hrel
                              have hsz := HW.out.size
                              obtain ⟨y8, y9⟩ := HP3.out.gn HW.out hwV
                              by_cases hqn : q + 1 < nn
                              · obtain ⟨nb, noff, hkl, hA, hnb, hc1, hc2⟩ := (HNV.out.below HW.out (Nat.le_refl _)).at (k := q) (by omega)
                                obtain ⟨nb2, noff2, hkl2, hA2, hnb2, hd1, hd2⟩ := (HNV.out.below HW.out (Nat.le_refl _)).at hqn
                                subst hA
                                injection hA2 with hA2
                                injection hA2 with e1 e2
                                subst e1 e2
                                have HGO := Lib.hid (HO.out.succ hkl2)
                                have HBAD := Lib.hid (fun h => HR.out.trans (if_pos (show Falls ns from ⟨q, hkl2, h⟩)))
                                obtain ⟨p, hp⟩ : ∃ p, p = ns[q] := ⟨_, rfl⟩
                                obtain ⟨q', hq'⟩ : ∃ z, z = ns[q + 1] := ⟨_, rfl⟩
                                rw [← hp] at hc1 hc2 HGO HBAD
                                rw [← hq'] at hd1 hd2 HGO HBAD
                                clear hp hq'
                                obtain ⟨xs, xn⟩ := p
                                obtain ⟨ys, yn⟩ := q'
                                simp only at hc1 hc2 hd1 hd2 HGO HBAD
                                have i1 : (0 : Int) ≤ (q : Int) := by omega
                                have i2 : (q : Int) + 1 < (nn : Int) := by omega
                                have i3 : (q : Int) < (nn : Int) := by omega
                                have w1 : IntKind.i64.wrap ((q : Int) + 1 - 1) = (q : Int) := by rw [IntWalk.i64_in _ (by omega)]; omega
                                by_cases hlt2 : yn < xn
                                · go_upto_region 45 with (fail)
                                  go_quiet (fail)
                                  go_wp2_with fail
                                  go_ret
                                  exact ⟨ret_int (HBAD.out hlt2).symm, below_drewN (below_next HBE.out HW.out) _⟩
                                · go_upto_region 45 with (fail)
                                  go_quiet (fail)
                                  go_wp2_with fail
                                  go_roundw
                                  case rel => exact ⟨q + 1, by omega, by go_num, Lib.hid (below_drewN HW.out _), Lib.hid (HGO.out (by omega))⟩
                                  case measure => simp [intOf]; omega
                              · have HF := Lib.hid (HR.out.trans (if_neg (HO.out.not_falls (by rw [HNL.out]; omega))))
                                go_wp2_with fail
                                go_ret
                                exact ⟨ret_int HF.out.symm, below_next HBE.out HW.out⟩
          · rw [if_pos hgr] at HT
            have hgb : (gr != g) = true := by simp [hgr]
            go_wp2_with fail
            go_ret
            rw [patE_bad HT.out (by decide)]
            exact ⟨rfl, HBE.out⟩
end Go.Proofs.YtbekjfoefjnidaaDoor
