/- Check of show: walked, names and all. -/
import Derived.Test.YtbekjfoefjnidaaDoorFsG
import Derived.Test.YtbekjfoefjnidaaDoorFsAJ
namespace Go.Proofs.YtbekjfoefjnidaaDoor
open Go.RowKit
set_option linter.unusedVariables false
/-- what is wrong with a pattern -/
noncomputable def patE (t : Tr) (gr : Int) (l : List (ByteArray × Int)) : Int := if treeE t gr = 0 then namesE gr l else treeE t gr
theorem patE_bad {t : Tr} {gr e : Int} {l : List (ByteArray × Int)} (h : treeE t gr = e) (he : e ≠ 0) : patE t gr l = e := by unfold patE; rw [h, if_neg he]
theorem patE_ok {t : Tr} {gr : Int} {l : List (ByteArray × Int)} (h : treeE t gr = 0) : patE t gr l = namesE gr l := by unfold patE; rw [if_pos h]
set_option maxRecDepth 100000 in
set_option maxHeartbeats 4000000 in
theorem check27 (t : Tr) (d : ND) (gr : Int) (nA : Option Addr) (nn nc : Nat) (l : List (ByteArray × Int)) (w : World) (hn : NodeAt w w.heap.size t d) (hl : NamesAt w w.heap.size nA nn l) (hnc : nn ≤ nc) (hcm : nc ≤ maxLen) (hnn : nn < maxLen) :
    Calls Tryd.prog 7 #[patV d gr nA nn nc] w fun e w' => e = .returned (.int .i64 (patE t gr l)) ∧ Below w.heap.size w w' := by
  have HN := Lib.hid hn
  have HM := Lib.hid (manyT_law t 1000 0)
  have HF := Lib.hid (fine_iff t)
  have HP := Lib.hid (PatN.new w d gr nA nn nc)
  have HB := Lib.hid (patB_below w d gr nA nn nc)
  have C := Lib.hid (many36 t 1000 0 d (patB w d gr nA nn nc) (hn.next (patB_below w d gr nA nn nc)) (by decide) (by decide) (by decide) (by decide))
  have C37 := Lib.hid (fun (w1 : World) (h : Below w.heap.size w w1) (hs : sizeT t ≤ 1000) => node37 t 0 [] d (w1.alloc (.cells #[.int .i64 0, .slice none 0 0] 44)) w1.heap.size w1.heap.size (NodeAt.map (fun r => (r.below (h.alloc h.size _) (Nat.le_refl _)).more h.size) _ _ hn) (CkAt.new w1 _ (Nat.le_refl _)) (by decide) (by omega) (by simp; omega))
  have C38 := Lib.hid (fun (w' : World) (h : Below w.heap.size w w') => names38 d gr nA nn nc l w' ((hl.below h (Nat.le_refl _)).more h.size) hnc hcm hnn)
  clear hn hl
  obtain ⟨dk, dsA, dsn, dsc, dkA, dkn, dkc, dnum, dleast, dmost, dway, dfold⟩ := d
  unfold ND.agg at C C37
  unfold patV at C38 ⊢
  unfold patB at HP HB C
  simp only at HP HB C C37 C38 ⊢
  obtain ⟨m, hm⟩ : ∃ x, x = manyT t 1000 0 := ⟨_, rfl⟩
  rw [← hm] at C HM
  clear hm
  cases hg : tooG t
  case true =>
    have HT := Lib.hid (treeE_many (gr := gr) hg)
    have hmm := HM.out.2.1 (fun h => by rw [HF.out.1 h] at hg; cases hg)
    clear hg
    go_enter Tryd.func7, Tryd.ntmps7
    go_wp2_with (go_at_call 14; refine C.out.mono ?_; rintro e w1 ⟨rfl, hb⟩; have HB1 := Lib.hid (below_next HB.out hb); clear hb)
    go_ret
    rw [patE_bad HT.out (by first | decide | exact her)]
    exact ⟨rfl, HB1.out⟩
  case false =>
    have HT := Lib.hid (treeE_node (gr := gr) hg)
    have hmm := HM.out.1 (HF.out.2 hg)
    have hsz : (sizeT t : Int) ≤ 1000 := (HF.out.2 hg).1
    have hmm2 : ¬ 1000 < m := by omega
    clear hg hmm
    obtain ⟨ee, hee⟩ : ∃ x, x = nodeE t 0 := ⟨_, rfl⟩
    have HEE := Lib.hid hee
    rw [← hee] at HT
    clear hee
    obtain ⟨er, G⟩ := ee
    simp only at HT
    have hs2 : sizeT t ≤ 1000 := by omega
    by_cases her : er = 0
    · subst her
      rw [if_neg (by simp)] at HT
      by_cases hG : 20 < G
      · rw [if_pos hG] at HT
        go_enter Tryd.func7, Tryd.ntmps7
        go_wp2_with (first | (go_at_call 14; refine C.out.mono ?_; rintro e w1 ⟨rfl, hb⟩; have HB1 := Lib.hid (below_next HB.out hb); have HP1 := Lib.hid (HP.out.below hb HP.out.1.1); have HLT := Lib.hid (show w.heap.size < w1.heap.size from Nat.lt_of_lt_of_le HP.out.1.1 hb.size); have HC := Lib.hid (C37.out w1 HB1.out hs2); obtain ⟨⟨z0, z1, z2, z3, z4, z5, z6, z7, z8⟩, z9, z10⟩ := HP1.out.below ((Below.refl _ _).alloc (Nat.le_refl _) _ : Below w1.heap.size w1 (w1.alloc (.cells #[.int .i64 0, .slice none 0 0] 44))) HLT.out; clear hb) | (go_at_call 15; refine HC.out.mono ?_; rintro e w2 ⟨he, hb2, hck⟩; rw [← HEE.out] at he hck; simp only at he; subst he; have HB2 := Lib.hid ((((Below.refl _ _).alloc (Nat.le_refl _) _ : Below w1.heap.size w1 (w1.alloc (.cells #[.int .i64 0, .slice none 0 0] 44)))).trans (hb2)); have HB3 := Lib.hid (HB1.out.trans (HB2.out.mono HB1.out.size)); have HP2 := Lib.hid (HP1.out.below HB2.out HLT.out); have HCK := Lib.hid hck; clear hb2 hck z0 z1 z2 z3 z4 z5 z6 z7 z8 z9 z10; obtain ⟨⟨z0, z1, z2, z3, z4, z5, z6, z7, z8⟩, z9, z10⟩ := HP2.out; obtain ⟨_, k1, k2, k3, k4, Ag, ng, cg, k5, hown⟩ := HCK.out.out rfl))
        go_ret
        rw [patE_bad HT.out (by first | decide | exact her)]
        exact ⟨rfl, HB3.out⟩
      · rw [if_neg hG] at HT
        by_cases hgr : gr = G
        · rw [if_neg (by rw [hgr]; simp)] at HT
          subst hgr
          have hgb : (gr != gr) = false := by simp
          go_enter Tryd.func7, Tryd.ntmps7
          go_wp2_with (first | (go_at_call 14; refine C.out.mono ?_; rintro e w1 ⟨rfl, hb⟩; have HB1 := Lib.hid (below_next HB.out hb); have HP1 := Lib.hid (HP.out.below hb HP.out.1.1); have HLT := Lib.hid (show w.heap.size < w1.heap.size from Nat.lt_of_lt_of_le HP.out.1.1 hb.size); have HC := Lib.hid (C37.out w1 HB1.out hs2); obtain ⟨⟨z0, z1, z2, z3, z4, z5, z6, z7, z8⟩, z9, z10⟩ := HP1.out.below ((Below.refl _ _).alloc (Nat.le_refl _) _ : Below w1.heap.size w1 (w1.alloc (.cells #[.int .i64 0, .slice none 0 0] 44))) HLT.out; clear hb) | (go_at_call 15; refine HC.out.mono ?_; rintro e w2 ⟨he, hb2, hck⟩; rw [← HEE.out] at he hck; simp only at he; subst he; have HB2 := Lib.hid ((((Below.refl _ _).alloc (Nat.le_refl _) _ : Below w1.heap.size w1 (w1.alloc (.cells #[.int .i64 0, .slice none 0 0] 44)))).trans (hb2)); have HB3 := Lib.hid (HB1.out.trans (HB2.out.mono HB1.out.size)); have HP2 := Lib.hid (HP1.out.below HB2.out HLT.out); have HCK := Lib.hid hck; clear hb2 hck z0 z1 z2 z3 z4 z5 z6 z7 z8 z9 z10; obtain ⟨⟨z0, z1, z2, z3, z4, z5, z6, z7, z8⟩, z9, z10⟩ := HP2.out; obtain ⟨_, k1, k2, k3, k4, Ag, ng, cg, k5, hown⟩ := HCK.out.out rfl))
          go_quiet (fail)
          go_wp2_with fail
          rw [List.nil_append] at hown
          have HR := Lib.hid (Rds.of_own hown)
          have HLN := Lib.hid (own_ints_len hown)
          have hnm : ng ≤ 1000 := by have h1 := own_ints_len hown; have h2 := agL_len (flatT t); rw [flatT_len] at h2; omega
          obtain ⟨ag, hag⟩ : ∃ x, x = agL (flatT t) := ⟨_, rfl⟩
          rw [← hag] at HT HR HLN
          clear hag hown
          go_loopw [37] (fun i wr => ∃ k : Nat, k ≤ ng ∧ i = .int .i64 k ∧ Hid (((ag.take k).any fun n => !(decide (1 ≤ n) && decide (n ≤ gr))) = false) ∧ w2.drewN nq = wr) (fun i _ => ng - (intOf i).toNat)
          case atStart => exact ⟨0, Nat.zero_le _, rfl, Lib.hid rfl, rfl⟩
          case round =>
            obtain ⟨k, hk, rfl, HA, rfl⟩ := hrel
            by_cases hlt : k < ng
            · obtain ⟨b1, off1, hl1, hAA, hb1, hc1⟩ := HR.out.int_at hlt
              have HTK := Lib.hid (take_snoc' ag k hl1)
              have HMEM := Lib.hid (List.getElem_mem hl1)
              obtain ⟨x, hx⟩ : ∃ x, x = ag[k] := ⟨_, rfl⟩
              rw [← hx] at hc1 HTK HMEM
              clear hx
              subst hAA
              have k2' : (k : Int) < (ng : Int) := by omega
              by_cases h1 : x < 1
              · have HZ := Lib.hid (show (ag.any fun n => !(decide (1 ≤ n) && decide (n ≤ gr))) = true from List.any_eq_true.2 ⟨x, HMEM.out, by simp; omega⟩)
                go_wp2
                go_ret
                rw [patE_bad (HT.out.trans (if_pos HZ.out)) (by decide)]
                exact ⟨rfl, below_drewN HB3.out _⟩
              · by_cases h2 : gr < x
                · have HZ := Lib.hid (show (ag.any fun n => !(decide (1 ≤ n) && decide (n ≤ gr))) = true from List.any_eq_true.2 ⟨x, HMEM.out, by simp; omega⟩)
                  go_wp2
                  go_ret
                  rw [patE_bad (HT.out.trans (if_pos HZ.out)) (by decide)]
                  exact ⟨rfl, below_drewN HB3.out _⟩
                · go_wp2
                  go_roundw
                  case rel => exact ⟨k + 1, by omega, by go_num, Lib.hid (by rw [HTK.out, List.any_append, HA.out]; simp; omega), by first | rfl | trivial⟩
                  case measure => simp [intOf]; omega
            · obtain rfl : k = ng := by omega
              have HZ := Lib.hid (show (ag.any fun n => !(decide (1 ≤ n) && decide (n ≤ gr))) = false by rw [← HA.out, List.take_of_length_le (by rw [← HLN.out]; exact Nat.le_refl _)])
              go_wp2_with (go_at_call 16; refine (C38.out _ (below_drewN HB3.out nq)).mono ?_; rintro e w3 ⟨rfl, hb3⟩)
              go_ret
              rw [patE_ok (HT.out.trans (if_neg (by rw [HZ.out]; simp)))]
              exact ⟨rfl, (below_drewN HB3.out nq).trans (hb3.mono (show w.heap.size ≤ _ from HB3.out.size))⟩
        · rw [if_pos hgr] at HT
          have hgb : (gr != G) = true := by simp [hgr]
          go_enter Tryd.func7, Tryd.ntmps7
          go_wp2_with (first | (go_at_call 14; refine C.out.mono ?_; rintro e w1 ⟨rfl, hb⟩; have HB1 := Lib.hid (below_next HB.out hb); have HP1 := Lib.hid (HP.out.below hb HP.out.1.1); have HLT := Lib.hid (show w.heap.size < w1.heap.size from Nat.lt_of_lt_of_le HP.out.1.1 hb.size); have HC := Lib.hid (C37.out w1 HB1.out hs2); obtain ⟨⟨z0, z1, z2, z3, z4, z5, z6, z7, z8⟩, z9, z10⟩ := HP1.out.below ((Below.refl _ _).alloc (Nat.le_refl _) _ : Below w1.heap.size w1 (w1.alloc (.cells #[.int .i64 0, .slice none 0 0] 44))) HLT.out; clear hb) | (go_at_call 15; refine HC.out.mono ?_; rintro e w2 ⟨he, hb2, hck⟩; rw [← HEE.out] at he hck; simp only at he; subst he; have HB2 := Lib.hid ((((Below.refl _ _).alloc (Nat.le_refl _) _ : Below w1.heap.size w1 (w1.alloc (.cells #[.int .i64 0, .slice none 0 0] 44)))).trans (hb2)); have HB3 := Lib.hid (HB1.out.trans (HB2.out.mono HB1.out.size)); have HP2 := Lib.hid (HP1.out.below HB2.out HLT.out); have HCK := Lib.hid hck; clear hb2 hck z0 z1 z2 z3 z4 z5 z6 z7 z8 z9 z10; obtain ⟨⟨z0, z1, z2, z3, z4, z5, z6, z7, z8⟩, z9, z10⟩ := HP2.out; obtain ⟨_, k1, k2, k3, k4, Ag, ng, cg, k5, hown⟩ := HCK.out.out rfl))
          go_quiet (fail)
          go_wp2_with fail
          go_ret
          rw [patE_bad HT.out (by first | decide | exact her)]
          exact ⟨rfl, below_drewN HB3.out _⟩
    · rw [if_pos her] at HT
      go_enter Tryd.func7, Tryd.ntmps7
      go_wp2_with (first | (go_at_call 14; refine C.out.mono ?_; rintro e w1 ⟨rfl, hb⟩; have HB1 := Lib.hid (below_next HB.out hb); have HP1 := Lib.hid (HP.out.below hb HP.out.1.1); have HLT := Lib.hid (show w.heap.size < w1.heap.size from Nat.lt_of_lt_of_le HP.out.1.1 hb.size); have HC := Lib.hid (C37.out w1 HB1.out hs2); obtain ⟨⟨z0, z1, z2, z3, z4, z5, z6, z7, z8⟩, z9, z10⟩ := HP1.out.below ((Below.refl _ _).alloc (Nat.le_refl _) _ : Below w1.heap.size w1 (w1.alloc (.cells #[.int .i64 0, .slice none 0 0] 44))) HLT.out; clear hb) | (go_at_call 15; refine HC.out.mono ?_; rintro e w2 ⟨he, hb2, hck⟩; rw [← HEE.out] at he hck; simp only at he; subst he; have HB2 := Lib.hid ((((Below.refl _ _).alloc (Nat.le_refl _) _ : Below w1.heap.size w1 (w1.alloc (.cells #[.int .i64 0, .slice none 0 0] 44)))).trans (hb2)); have HB3 := Lib.hid (HB1.out.trans (HB2.out.mono HB1.out.size)); have HP2 := Lib.hid (HP1.out.below HB2.out HLT.out); have HCK := Lib.hid hck; clear hb2 hck z0 z1 z2 z3 z4 z5 z6 z7 z8 z9 z10))
      go_ret
      rw [patE_bad HT.out (by first | decide | exact her)]
      exact ⟨rfl, HB3.out⟩
end Go.Proofs.YtbekjfoefjnidaaDoor
