/- facts.Check; CheckBehind of the reference: walked. -/
import Derived.Test.YtbekjfoefjnidaaFsAP
import Derived.Test.YtbekjfoefjnidaaFsAO
import Derived.Test.YtbekjfoefjnidaaFsT
import Derived.Test.YtbekjfoefjnidaaFsW
import Derived.Test.YtbekjfoefjnidaaNodeW
namespace Go.Proofs.Ytbekjfoefjnidaa
open Go.RowKit
set_option linter.unusedVariables false
theorem behF_plain {t : Tr} (h : t.kind ≠ 16 ∧ t.kind ≠ 17) : behF t = true := by unfold behF; rw [if_neg (by omega)]
/-- what is wrong with a pattern; what looks back has a width -/
noncomputable def behE (t : Tr) (gr : Int) (l : List (ByteArray × Int)) : Int := if patE t gr l = 0 then (if (flatT t).all behF = true then 0 else 9) else patE t gr l
theorem behE_bad {t : Tr} {gr : Int} {l : List (ByteArray × Int)} (h : patE t gr l ≠ 0) : behE t gr l = patE t gr l := by unfold behE; rw [if_neg h]
theorem behE_ok {t : Tr} {gr : Int} {l : List (ByteArray × Int)} (h : patE t gr l = 0) : behE t gr l = if (flatT t).all behF = true then 0 else 9 := by unfold behE; rw [if_pos h]
theorem patE_tree {t : Tr} {gr : Int} {l : List (ByteArray × Int)} (h : patE t gr l = 0) : treeE t gr = 0 := by
  unfold patE at h
  by_cases h0 : treeE t gr = 0
  · exact h0
  · rw [if_neg h0] at h; exact absurd h h0
set_option maxRecDepth 100000 in
set_option maxHeartbeats 2000000 in
theorem check12 (t : Tr) (d : ND) (gr : Int) (nA : Option Addr) (nn nc : Nat) (ns : List (ByteArray × Int)) (w : World) (hn : NodeAt w w.heap.size t d) (hl : NamesAt w w.heap.size nA nn ns) (hnc : nn ≤ nc) (hcm : nc ≤ maxLen) (hnm : nn < maxLen) :
    Calls Try.prog 12 #[patV d gr nA nn nc] w fun e w' => e = .returned (.int .i64 (behE t gr ns)) ∧ Below w.heap.size w w' := by
  have HP := Lib.hid (PatN.new w d gr nA nn nc)
  have HB := Lib.hid (patB_below w d gr nA nn nc)
  have C27 := Lib.hid (check27 t d gr nA nn nc ns (patB w d gr nA nn nc) (hn.next (patB_below w d gr nA nn nc)) (hl.next (patB_below w d gr nA nn nc)) hnc hcm hnm)
  by_cases he : patE t gr ns = 0
  · have HE := Lib.hid (behE_ok he)
    have hok := treeE_ok (patE_tree he)
    have EG : ∀ args w, (callFunc 28 args).run Try.prog w = .ok (.enter 28 args) w := enters_of Try.func28 (by kernel_rfl) rfl
    have C19 := Lib.hid (fun (w1 : World) (h : Below w.heap.size w w1) => walk19r RightT RightT.kids behF (fun _ => false) 28 #[] (fun _ _ => True) w1.heap.size none EG (fun _ _ _ _ _ => trivial)
      (fun t' d' w' n hR' hB hn' _ _ _ => (clo28 t' d' w' hR' (NodeAt.map (fun r => r.more hB) _ _ hn')).mono fun e w'' ⟨h1, h2⟩ => ⟨h1, h2.mono hB, fun b hb _ => h2.block b hb, trivial⟩) t hok.2 d w1 0 (Nat.le_refl _) (fun p e => by cases e)
      (NodeAt.map (fun r => (r.below h (Nat.le_refl _)).more h.size) _ _ hn) trivial (by decide) (by have := ((fine_iff t).2 hok.1).1; omega))
    rw [he] at C27
    clear hn hl hok EG he
    obtain ⟨dk, dsA, dsn, dsc, dkA, dkn, dkc, dnum, dleast, dmost, dway, dfold⟩ := d
    unfold patV at C27 ⊢
    unfold patB at HP HB C27
    unfold ND.agg at C19
    unfold WalkSaid at C19
    simp only at HP HB C27 C19 ⊢
    obtain ⟨b, hb⟩ : ∃ b, b = (flatT t).all behF := ⟨_, rfl⟩
    rw [← hb] at C19 HE
    clear hb
    obtain ⟨⟨x0, x1, x2, x3, x4, x5, x6, x7, x8⟩, x9, x10⟩ := HP.out
    cases b
    all_goals
      go_enter Try.func12, Try.ntmps12
      go_wp2_with (first
        | (go_at_call 27; refine C27.out.mono ?_; rintro e w1 ⟨rfl, hb⟩; have HB1 := Lib.hid (below_next HB.out hb); have HP1 := Lib.hid (HP.out.below hb HP.out.1.1); clear x0 x1 x2 x3 x4 x5 x6 x7 x8 x9 x10; obtain ⟨⟨x0, x1, x2, x3, x4, x5, x6, x7, x8⟩, x9, x10⟩ := HP1.out; clear hb)
        | (go_at_call 19; refine (C19.out w1 HB1.out).mono ?_; rintro e w2 ⟨rfl, hb2, -⟩; have HB2 := Lib.hid (below_next HB1.out hb2); clear hb2))
      go_ret
      exact ⟨ret_int (by rw [HE.out]; simp), HB2.out⟩
  · have HE := Lib.hid (behE_bad he)
    obtain ⟨er, her⟩ : ∃ x, x = patE t gr ns := ⟨_, rfl⟩
    rw [← her] at C27 HE he
    clear her hn hl
    obtain ⟨dk, dsA, dsn, dsc, dkA, dkn, dkc, dnum, dleast, dmost, dway, dfold⟩ := d
    unfold patV at C27 ⊢
    unfold patB at HP HB C27
    simp only at HP HB C27 ⊢
    obtain ⟨⟨x0, x1, x2, x3, x4, x5, x6, x7, x8⟩, x9, x10⟩ := HP.out
    have heb : (er != 0) = true := bne_iff_ne.2 he
    go_enter Try.func12, Try.ntmps12
    go_wp2_with (go_at_call 27; refine C27.out.mono ?_; rintro e w1 ⟨rfl, hb⟩; have HB1 := Lib.hid (below_next HB.out hb); clear hb)
    go_ret
    exact ⟨ret_int HE.out.symm, HB1.out⟩
theorem flat_trans {x y : Tr} (t : Tr) : x ∈ flatT t → y ∈ flatT x → y ∈ flatT t := by
  refine tree_ind (P := fun t => x ∈ flatT t → y ∈ flatT x → y ∈ flatT t) (fun t ih hx hy => ?_) t
  rw [flatT_eq] at hx
  rcases List.mem_cons.1 hx with e | e
  · rw [← e]; exact hy
  · obtain ⟨k, hk, hxk⟩ := flatL_mem e
    exact flat_kid hk (ih k hk hxk hy)
theorem all_take {α : Type} {p : α → Bool} {l : List α} {k : Nat} (hk : k < l.length) (h : (l.take k).all p = true) (hp : p l[k] = true) : (l.take (k + 1)).all p = true := by
  rw [List.take_succ_eq_append_getElem hk, List.all_append, h]; simp [hp]
theorem all_not {α : Type} {p : α → Bool} {l : List α} {k : Nat} (hk : k < l.length) (hp : p l[k] = false) : l.all p = false := by
  rw [List.all_eq_false]; exact ⟨_, List.getElem_mem hk, by rw [hp]; simp⟩
theorem behF_kid {t : Tr} (hk : t.kind = 16 ∨ t.kind = 17) (h : 0 < t.kids.length) : behF t = (decide ((0 : Int) ≤ (widT t.kids[0]).2) && decide ((widT t.kids[0]).2 ≤ 100)) := by
  unfold behF
  rw [if_pos hk, headD_map _ h]
set_option maxRecDepth 100000 in
set_option maxHeartbeats 4000000 in
theorem checkBehind13 (t : Tr) (d : ND) (gr : Int) (nA : Option Addr) (nn nc : Nat) (ns : List (ByteArray × Int)) (w : World) (hn : NodeAt w w.heap.size t d) (hsm : Small t) (hl : NamesAt w w.heap.size nA nn ns) (hnc : nn ≤ nc) (hcm : nc ≤ maxLen) (hnm : nn < maxLen) (htx : ∀ x ∈ ns, x.1.size ≤ 100000000) :
    Calls Try.prog 13 #[patV d gr nA nn nc] w fun e w' => e = .returned (.int .i64 (behE t gr ns)) ∧ Below w.heap.size w w' := by
  have HP := Lib.hid (PatN.new w d gr nA nn nc)
  have HB := Lib.hid (patB_below w d gr nA nn nc)
  have C22 := Lib.hid (check22 t d gr nA nn nc ns (patB w d gr nA nn nc) (hn.next (patB_below w d gr nA nn nc)) hsm (hl.next (patB_below w d gr nA nn nc)) hnc hcm hnm htx)
  by_cases he : patE t gr ns = 0
  · have HE := Lib.hid (behE_ok he)
    have hok := treeE_ok (patE_tree he)
    have hs2 : sizeT t ≤ 1000 := by have := ((fine_iff t).2 hok.1).1; omega
    have HRT := Lib.hid hok.2
    have C25 := Lib.hid (fun (w1 : World) (h : Below w.heap.size w w1) => flat25 t d w1 w.heap.size h.size (hn.keepB h (Nat.le_refl _)) hs2)
    have HFL := Lib.hid (flatT_len t)
    have HSUB := Lib.hid (fun (x : Tr) (hx : x ∈ flatT t) => (show RightT x from fun y hy => hok.2 y (flat_trans _ hx hy)))
    rw [he] at C22
    clear hn hl hok he htx hsm
    obtain ⟨dk, dsA, dsn, dsc, dkA, dkn, dkc, dnum, dleast, dmost, dway, dfold⟩ := d
    unfold patV at C22 ⊢
    unfold patB at HP HB C22
    unfold ND.agg at C25
    simp only at HP HB C22 C25 ⊢
    obtain ⟨⟨x0, x1, x2, x3, x4, x5, x6, x7, x8⟩, x9, x10⟩ := HP.out
    go_enter Try.func13, Try.ntmps13
    go_upto_region 4 with (go_at_call 22; refine C22.out.mono ?_; rintro e w1 ⟨rfl, hb⟩; have HB1 := Lib.hid (below_next HB.out hb); have HP1 := Lib.hid (HP.out.below hb HP.out.1.1); clear x0 x1 x2 x3 x4 x5 x6 x7 x8 x9 x10; obtain ⟨⟨x0, x1, x2, x3, x4, x5, x6, x7, x8⟩, x9, x10⟩ := HP1.out; clear hb)
    have C := Lib.hid (C25.out w1 HB1.out)
    go_upto_region 5 with (fail)
    refine C.out.mono ?_
    rintro en w2 ⟨A, n, c, ds, rfl, hown, hks, hb⟩
    have HR := Lib.hid (Rds.of_own hown)
    have HK := Lib.hid hks
    have HL := Lib.hid (show (flatT t).length = n ∧ ds.length = n by have h1 := own_nds_len hown; have h2 := hks.len; omega)
    have hnn : n ≤ 1000 := by have := HL.out.1; have := HFL.out; omega
    have HB2 := Lib.hid (below_next HB1.out hb)
    clear hown hks hb C x0 x1 x2 x3 x4 x5 x6 x7 x8 x9 x10
    obtain ⟨l, hl⟩ : ∃ x, x = flatT t := ⟨_, rfl⟩
    rw [← hl] at HK HL HE HSUB
    clear hl HFL
    have HLB := Lib.hid (show w.heap.size ≤ w2.heap.size from HB2.out.size)
    go_upto_region 6 with (fail)
    go_loopw [5] (fun i wr => ∃ k : Nat, k ≤ n ∧ i = .int .i64 k ∧ Hid ((l.take k).all behF = true) ∧ Hid (Below w2.heap.size w2 wr)) (fun i _ => n - (intOf i).toNat)
    case atStart => exact ⟨0, Nat.zero_le _, rfl, Lib.hid rfl, Lib.hid (Below.refl _ _)⟩
    case round =>
      obtain ⟨k, hk, rfl, HA, HBW⟩ := hrel
      by_cases hlt : k < n
      · obtain ⟨b1, off1, hl1, hA, hb1, c0, c1, c2, c3, c4, c5, c6, c7⟩ := (HR.out.below HBW.out (Nat.le_refl _)).node_at hlt
        have hkl : k < l.length := by rw [HL.out.1]; exact hlt
        have HND := Lib.hid (Tr.nodeAt_of HK.out (HBW.out.mono HLB.out) (Nat.le_trans HLB.out HBW.out.size) hkl hl1)
        have HKD := Lib.hid (HK.out.kind_at hkl hl1)
        have HGO := Lib.hid (all_take (p := behF) hkl HA.out)
        have HBAD := Lib.hid (fun h : behF l[k] = false => (show behE t gr ns = 9 by rw [HE.out, all_not hkl h]; rfl))
        have HRX := Lib.hid (HSUB.out _ (List.getElem_mem hkl))
        obtain ⟨e, hee⟩ : ∃ x, x = ds[k] := ⟨_, rfl⟩
        rw [← hee] at c0 c1 c2 c3 c4 c5 c6 c7 HND HKD
        clear hee
        obtain ⟨x, hx⟩ : ∃ x, x = l[k] := ⟨_, rfl⟩
        rw [← hx] at HND HKD HGO HBAD HRX
        clear hx
        have HAA := Lib.hid hA
        subst hA
        have k2 : (k : Int) < (n : Int) := by omega
        by_cases h16 : x.kind = 16 ∨ x.kind = 17
        · obtain ⟨dss, hof⟩ := HND.out.of
          have hone : x.kids.length = 1 := by
            have h := right_kids (HRX.out x (by rw [flatT_eq]; simp))
            unfold kidsBad at h
            rw [if_neg (by omega), if_pos (by omega)] at h
            simpa using h
          have hkn : e.kn = 1 := by have := hof.knum.1; omega
          have hdl : 0 < dss.length := by have := hof.knum.2; omega
          have HF := Lib.hid (behF_kid h16 (show 0 < x.kids.length by omega))
          have C := Lib.hid (wideR _ dss[0] wr (hof.each.at 0 (show 0 < x.kids.length by omega) hdl) (RightT.kids x HRX.out _ (List.getElem_mem _)))
          obtain ⟨b3, off3, hl3, hA3, hb3, e0, e1, e2, e3, e4, e5, e6, e7⟩ := hof.kids.node_at (show 0 < e.kn by omega)
          have hkc := hof.kc1
          rw [← HKD.out.1] at h16
          obtain ⟨f, hf⟩ : ∃ x, x = dss[0] := ⟨_, rfl⟩
          rw [← hf] at e0 e1 e2 e3 e4 e5 e6 e7 C
          obtain ⟨r, hrr⟩ : ∃ r, r = widT (x.kids[0]'(by omega)) := ⟨_, rfl⟩
          rw [← hrr] at HF C
          clear hf hof hrr hone hdl
          obtain ⟨ek, esA, esn, esc, ekA, ekn, ekc, enum, eleast, emost, eway, efold⟩ := e
          simp only at hA3 h16 hkn hkc c0 c1 c2 c3 c4 c5 c6 c7
          subst hkn
          have HA3 := Lib.hid hA3
          subst hA3
          unfold ND.agg at C
          simp only [Nat.zero_mul, Nat.add_zero] at e0 e1 e2 e3 e4 e5 e6 e7
          obtain ⟨r1, r2⟩ := r
          unfold wT at C
          simp only at C HF
          have i0 : (0 : Int) < ((1 : Nat) : Int) := by decide
          by_cases h0 : r2 < 0
          · have HZ := Lib.hid (HBAD.out (by rw [HF.out]; simp; omega))
            clear HF HGO HBAD
            rcases h16 with rfl | rfl
            all_goals
              go_wp2_with (go_at_call 10; refine C.out.mono ?_; rintro en w3 ⟨rfl, hb⟩; have HB3 := Lib.hid (below_next HBW.out hb); clear hb)
              go_ret
              exact ⟨ret_int HZ.out.symm, below_next HB2.out HB3.out⟩
          · by_cases h1 : 100 < r2
            · have HZ := Lib.hid (HBAD.out (by rw [HF.out]; simp; omega))
              clear HF HGO HBAD
              rcases h16 with rfl | rfl
              all_goals
                go_wp2_with (go_at_call 10; refine C.out.mono ?_; rintro en w3 ⟨rfl, hb⟩; have HB3 := Lib.hid (below_next HBW.out hb); clear hb)
                go_ret
                exact ⟨ret_int HZ.out.symm, below_next HB2.out HB3.out⟩
            · have HZ := Lib.hid (HGO.out (by rw [HF.out]; simp; omega))
              clear HF HGO HBAD
              rcases h16 with rfl | rfl
              all_goals
                go_wp2_with (go_at_call 10; refine C.out.mono ?_; rintro en w3 ⟨rfl, hb⟩; have HB3 := Lib.hid (below_next HBW.out hb); clear hb)
                go_roundw
                case rel => exact ⟨k + 1, by omega, by go_num, HZ, HB3⟩
                case measure => simp [intOf]; omega
        · have HF := Lib.hid (HGO.out (behF_plain ⟨fun e => h16 (.inl e), fun e => h16 (.inr e)⟩))
          rw [← HKD.out.1] at h16
          obtain ⟨ek, esA, esn, esc, ekA, ekn, ekc, enum, eleast, emost, eway, efold⟩ := e
          simp only at h16 c0 c1 c2 c3 c4 c5 c6 c7
          have hq1 : (ek == 16) = false := beq_eq_false_iff_ne.2 fun e => h16 (.inl e)
          have hq2 : (ek == 17) = false := beq_eq_false_iff_ne.2 fun e => h16 (.inr e)
          clear h16 HGO HBAD
          go_wp2_with fail
          go_roundw
          case rel => exact ⟨k + 1, by omega, by go_num, HF, HBW⟩
          case measure => simp [intOf]; omega
      · obtain rfl : n = k := by omega
        rw [List.take_of_length_le (by rw [HL.out.1]; exact Nat.le_refl _)] at HA
        have HZ := Lib.hid (show behE t gr ns = 0 by rw [HE.out, HA.out]; rfl)
        go_wp2_with fail
        go_ret
        exact ⟨ret_int HZ.out.symm, below_next HB2.out HBW.out⟩
  · have HE := Lib.hid (behE_bad he)
    obtain ⟨er, her⟩ : ∃ x, x = patE t gr ns := ⟨_, rfl⟩
    rw [← her] at C22 HE he
    clear her hn hl htx hsm
    obtain ⟨dk, dsA, dsn, dsc, dkA, dkn, dkc, dnum, dleast, dmost, dway, dfold⟩ := d
    unfold patV at C22 ⊢
    unfold patB at HP HB C22
    simp only at HP HB C22 ⊢
    obtain ⟨⟨x0, x1, x2, x3, x4, x5, x6, x7, x8⟩, x9, x10⟩ := HP.out
    have heb : (er != 0) = true := bne_iff_ne.2 he
    go_enter Try.func13, Try.ntmps13
    go_wp2_with (go_at_call 22; refine C22.out.mono ?_; rintro e w1 ⟨rfl, hb⟩; have HB1 := Lib.hid (below_next HB.out hb); clear hb)
    go_ret
    exact ⟨ret_int HE.out.symm, HB1.out⟩
end Go.Proofs.Ytbekjfoefjnidaa
