/- Walk over a closure that wants what it sees to be right; Check$1: walked. -/
import Derived.Test.YtbekjfoefjnidaaFsS
import Derived.Test.YtbekjfoefjnidaaFsH
namespace Go.Proofs.Ytbekjfoefjnidaa
open Go.RowKit
set_option linter.unusedVariables false
set_option maxRecDepth 100000 in
set_option maxHeartbeats 2000000 in
theorem walk19r (R : Tr → Prop) (hR : ∀ t, R t → ∀ k ∈ t.kids, R k) (f q : Tr → Bool) (g : Nat) (cb : Array Value) (J : World → Int → Prop) (B : Nat) (pb : Option Nat)
    (eg : ∀ args w, (callFunc g args).run Try.prog w = .ok (.enter g args) w)
    (hj : ∀ w w' n, J w n → Below w.heap.size w w' → J w' n)
    (hcl : ∀ (t : Tr) (d : ND) (w : World) (n : Int), R t → B ≤ w.heap.size → NodeAt w B t d → J w n → 0 ≤ n → n ≤ 100000 → Calls Try.prog g (#[d.agg] ++ cb) w fun e w' => e = .returned (.bool (f t)) ∧ Below B w w' ∧ Oth pb w w' ∧ J w' (n + if q t = true then 1 else 0))
    (t : Tr) : R t → ∀ (d : ND) (w : World) (n : Int), B ≤ w.heap.size → (∀ p, pb = some p → p < w.heap.size) → NodeAt w B t d → J w n → 0 ≤ n → n + (sizeT t : Nat) ≤ 100000 → Calls Try.prog 19 #[d.agg, .func (.func g) #[] cb] w (WalkSaid f q J t n B w) := by
  refine tree_ind (P := fun t => R t → ∀ (d : ND) (w : World) (n : Int), B ≤ w.heap.size → (∀ p, pb = some p → p < w.heap.size) → NodeAt w B t d → J w n → 0 ≤ n → n + (sizeT t : Nat) ≤ 100000 → Calls Try.prog 19 #[d.agg, .func (.func g) #[] cb] w (WalkSaid f q J t n B w)) (fun t ih => ?_) t
  intro hrt d w n hBw hpb hn hjw n0 n1
  obtain ⟨ds, hn⟩ := hn.of
  have HN := Lib.hid hn
  have HK := Lib.hid hn.knum
  have IH := Lib.hid (fun k hk => ih k hk (hR t hrt k hk))
  have HJ := Lib.hid hj
  have HSZ := Lib.hid (sizeT_eq t)
  have HFT := Lib.hid (flatT_eq t)
  have HB0 := Lib.hid ((ND.box_below w d).mono hBw)
  have HX0 := Lib.hid (BoxN.new w d)
  have HBB := Lib.hid (ND.box_below w d)
  have C := Lib.hid (hcl t d (d.box w) n hrt (Nat.le_trans hBw (ND.box_below w d).size) (NodeAt.map (fun h => h.below (ND.box_below w d) hBw) _ _ hn.node) (hj _ _ _ hjw (ND.box_below w d)) n0 (by have := sizeT_pos t; omega))
  have hkc := hn.kc1
  have hkm := hn.kc2
  unfold maxLen at hkm
  clear hn ih hcl hj hjw hR hrt
  obtain ⟨dk, dsA, dsn, dsc, dkA, dkn, dkc, dnum, dleast, dmost, dway, dfold⟩ := d
  unfold ND.agg at *
  unfold ND.box at *
  simp only at hkc hkm HK HB0 HX0 HBB C
  go_enter Try.func19, Try.ntmps19
  cases hf : f t
  case false =>
    have HR := Lib.hid (show (flatT t).all f = false by rw [HFT.out, List.all_cons, hf]; rfl)
    rw [hf] at C
    clear hf
    go_wp2_with fail
    refine C.out.mono ?_
    rintro e w1 ⟨rfl, hb1, -, -⟩
    go_wp2
    go_ret
    unfold WalkSaid
    rw [HR.out]
    exact ⟨rfl, HB0.out.trans hb1, Lib.hid fun h => by cases h⟩
  case true =>
    have HA := Lib.hid (show (flatT t).all f = (flatL t.kids).all f by rw [HFT.out, List.all_cons, hf]; rfl)
    rw [hf] at C
    clear hf
    have HPB := Lib.hid hpb
    have HNP := Lib.hid (show pb ≠ some w.heap.size from fun e => by have := hpb _ e; omega)
    clear hpb
    go_wp2_with fail
    refine C.out.mono ?_
    rintro e w1 ⟨rfl, hb1, ho, hj1⟩
    have HB1 := Lib.hid (HB0.out.trans hb1)
    have HJ1 := Lib.hid hj1
    have z2 := ho.cell HX0.out.1 HNP.out HX0.out.2.2.2.1
    have hz1 := HBB.out.size
    have hz2 := hb1.size
    clear hb1 ho hj1
    go_wp2_with fail
    obtain ⟨n2, hn2⟩ : ∃ x : Int, x = n + if q t = true then 1 else 0 := ⟨_, rfl⟩
    rw [← hn2] at HJ1
    have HN2 := Lib.hid hn2
    have n20 : 0 ≤ n2 := by rw [hn2]; split <;> omega
    have n21 : n2 + (sizeL (t.kids.drop 0) : Nat) ≤ 100000 := by have := HSZ.out; show n2 + (sizeL t.kids : Nat) ≤ 100000; rw [hn2]; split <;> omega
    clear hn2
    go_loopw [14] (fun i wr => ∃ (k : Nat) (nk : Int), k ≤ dkn ∧ i = .int .i64 k ∧ Hid ((flatL t.kids).all f = (flatL (t.kids.drop k)).all f) ∧ Hid (nk + (cntQ q (flatL (t.kids.drop k)) : Nat) = n2 + (cntQ q (flatL t.kids) : Nat)) ∧ Hid (J wr nk) ∧ Hid (Below B w wr) ∧ 0 ≤ nk ∧ nk + (sizeL (t.kids.drop k) : Nat) ≤ 100000 ∧ w.heap.size ≤ wr.heap.size) (fun i _ => dkn - (intOf i).toNat)
    case atStart => exact ⟨0, n2, Nat.zero_le _, rfl, Lib.hid rfl, Lib.hid rfl, HJ1, HB1, n20, n21, by omega⟩
    case round =>
      obtain ⟨k, nk, hk, rfl, HAL, HCN, HJK, HB, hn0, hns, hws⟩ := hrel
      by_cases hlt : k < dkn
      · obtain ⟨b1, off1, hl1, hA, hb1, c0, c1, c2, c3, c4, c5, c6, c7⟩ := (HN.out.kids.below HB.out (Nat.le_refl _)).node_at hlt
        have hkl : k < t.kids.length := by rw [HK.out.1]; exact hlt
        have HKID := Lib.hid (NodeAt.map (fun h => h.below HB.out (Nat.le_refl _)) _ _ (HN.out.each.at k hkl hl1))
        have HD := Lib.hid (flatL_drop t.kids k hkl)
        have HDS := Lib.hid (sizeL_drop t.kids k hkl)
        have HIH := Lib.hid (IH.out _ (List.getElem_mem hkl))
        obtain ⟨kid, hkid⟩ : ∃ x, x = t.kids[k] := ⟨_, rfl⟩
        rw [← hkid] at HKID HD HDS HIH
        clear hkid
        obtain ⟨e, he⟩ : ∃ x, x = ds[k] := ⟨_, rfl⟩
        rw [← he] at c0 c1 c2 c3 c4 c5 c6 c7 HKID
        clear he
        simp only at hA
        have HAA := Lib.hid hA
        subst hA
        have k2 : (k : Int) < (dkn : Int) := by omega
        have hds := HDS.out
        have hBr : B ≤ wr.heap.size := by omega
        have HBX := Lib.hid (ND.box_below wr e)
        have HCT := Lib.hid (cntQ_le q (flatT kid))
        have HC := Lib.hid (HIH.out e (e.box wr) nk (Nat.le_trans hBr (ND.box_below wr e).size) (fun p hp => by have := HPB.out p hp; have := (ND.box_below wr e).size; omega) (NodeAt.map (fun h => h.below (ND.box_below wr e) hBr) _ _ HKID.out) (HJ.out _ _ _ HJK.out (ND.box_below wr e)) hn0 (by omega))
        unfold ND.box at HBX HC
        unfold WalkSaid at HC
        clear hds
        cases hfk : (flatT kid).all f
        case false =>
          have HR := Lib.hid (show (flatT t).all f = false by rw [HA.out, HAL.out, HD.out, List.all_append, hfk]; rfl)
          rw [hfk] at HC
          clear hfk
          go_wp2_with fail
          refine HC.out.mono ?_
          rintro en w2 ⟨rfl, hb2, -⟩
          go_wp2
          go_ret
          unfold WalkSaid
          rw [HR.out]
          exact ⟨rfl, HB.out.trans ((HBX.out.mono hBr).trans hb2), Lib.hid fun h => by cases h⟩
        case true =>
          have HR := Lib.hid (show (flatL (t.kids.drop k)).all f = (flatL (t.kids.drop (k + 1))).all f by rw [HD.out, List.all_append, hfk]; rfl)
          rw [hfk] at HC
          clear hfk
          go_wp2_with fail
          refine HC.out.mono ?_
          rintro en w2 ⟨rfl, hb2, hj2⟩
          have HJ2 := Lib.hid (hj2.out (by first | rfl | trivial))
          have HB2 := Lib.hid (HB.out.trans ((HBX.out.mono hBr).trans hb2))
          clear hb2 hj2
          go_wp2
          go_roundw
          case rel => exact ⟨k + 1, nk + (cntQ q (flatT kid) : Nat), by omega, by go_num, Lib.hid (HAL.out.trans HR.out), Lib.hid (by rw [← HCN.out, HD.out, cntQ_append]; omega), HJ2, HB2, by omega, by have := HDS.out; have := HCT.out; rw [flatT_len] at this; omega, by have := HB2.out.size; omega⟩
          case measure => simp [intOf]; omega
      · obtain rfl : k = dkn := by omega
        have HZ := Lib.hid (show t.kids.drop k = [] from List.drop_of_length_le (by rw [HK.out.1]; exact Nat.le_refl _))
        have HR := Lib.hid (show (flatT t).all f = true by rw [HA.out, HAL.out, HZ.out]; rfl)
        have HCC := Lib.hid (show n + (cntQ q (flatT t) : Nat) = nk by
          have h1 := HCN.out
          rw [HZ.out] at h1
          have h2 : cntQ q (flatL []) = 0 := rfl
          have h3 : cntQ q (flatT t) = (if q t = true then 1 else 0) + cntQ q (flatL t.kids) := by rw [HFT.out, ← List.singleton_append, cntQ_append]; unfold cntQ; by_cases h : q t = true <;> simp [h]
          rw [h3]
          have h4 := HN2.out
          split at h4 <;> simp_all <;> omega)
        go_wp2
        go_ret
        unfold WalkSaid
        rw [HR.out, HCC.out]
        exact ⟨rfl, HB.out, Lib.hid fun _ => HJK.out⟩
/-- what looks back has a width that is right -/
def behF (t : Tr) : Bool := if t.kind = 16 ∨ t.kind = 17 then (decide (0 ≤ ((t.kids.map widT).headD (0, 0)).2) && decide (((t.kids.map widT).headD (0, 0)).2 ≤ 100)) else true
def RightT (t : Tr) : Prop := ∀ x ∈ flatT t, rightE x = 0
theorem RightT.kids (t : Tr) (h : RightT t) : ∀ k ∈ t.kids, RightT k := fun k hk x hx => h x (flat_kid hk hx)
set_option maxRecDepth 100000 in
set_option maxHeartbeats 2000000 in
theorem clo28 (t : Tr) (d : ND) (w : World) (hR : RightT t) (hn : NodeAt w w.heap.size t d) : Calls Try.prog 28 #[d.agg] w fun e w' => e = .returned (.bool (behF t)) ∧ Below w.heap.size w w' := by
  obtain ⟨ds, hn⟩ := hn.of
  have HB := Lib.hid (ND.box_below w d)
  have HX := Lib.hid (BoxN.new w d)
  by_cases hk : t.kind = 16 ∨ t.kind = 17
  · have hone : t.kids.length = 1 := by
      have h := right_kids (hR t (by rw [flatT_eq]; simp))
      unfold kidsBad at h
      rw [if_neg (by omega), if_pos (by omega)] at h
      simpa using h
    have hkn : d.kn = 1 := by have := hn.knum.1; omega
    have hdl : 0 < ds.length := by have := hn.knum.2; omega
    have HKID := Lib.hid (hn.each.at 0 (by omega) hdl)
    have HRK := Lib.hid (RightT.kids t hR _ (List.getElem_mem (show 0 < t.kids.length by omega)))
    have HW := Lib.hid (show behF t = (decide ((0 : Int) ≤ (widT (t.kids[0]'(by omega))).2) && decide ((widT (t.kids[0]'(by omega))).2 ≤ 100)) by
      unfold behF
      rw [if_pos hk]
      rw [headD_map _ (by omega)])
    obtain ⟨b1, off1, hl1, hA, hb1, c0, c1, c2, c3, c4, c5, c6, c7⟩ := (hn.kids.below (ND.box_below w d) (Nat.le_refl _)).node_at (show 0 < d.kn by omega)
    have C := Lib.hid (width18 _ ds[0] (d.box w) (NodeAt.map (fun r => (r.below (ND.box_below w d) (Nat.le_refl _)).more (ND.box_below w d).size) _ _ HKID.out) HRK.out)
    have EK := Lib.hid hn.kind
    have hkc := hn.kc1
    rw [← hn.kind] at hk
    obtain ⟨e, he⟩ : ∃ x, x = ds[0] := ⟨_, rfl⟩
    rw [← he] at c0 c1 c2 c3 c4 c5 c6 c7 C
    obtain ⟨r, hrr⟩ : ∃ x, x = widT (t.kids[0]'(by omega)) := ⟨_, rfl⟩
    rw [← hrr] at HW C
    clear he hn hR HKID HRK hrr EK hdl hl1 hone
    obtain ⟨dk, dsA, dsn, dsc, dkA, dkn, dkc, dnum, dleast, dmost, dway, dfold⟩ := d
    simp only at hA hk hkn hkc
    subst hkn
    have HAA := Lib.hid hA
    subst hA
    unfold ND.agg at C ⊢
    unfold ND.box at *
    simp only at C HB HX c0 c1 c2 c3 c4 c5 c6 c7 ⊢
    simp only [Nat.zero_mul, Nat.add_zero] at c0 c1 c2 c3 c4 c5 c6 c7
    obtain ⟨r1, r2⟩ := r
    have i0 : (0 : Int) < ((1 : Nat) : Int) := by decide
    by_cases h0 : 0 ≤ r2
    · by_cases h1 : r2 ≤ 100
      all_goals
        go_enter Try.func28, Try.ntmps28
        rcases hk with rfl | rfl
        all_goals
          go_wp2_with (go_at_call 18; refine C.out.mono ?_; rintro en w1 ⟨rfl, hb⟩; have HB1 := Lib.hid (below_next HB.out hb); clear hb)
          go_ret
          exact ⟨ret_bool (by rw [HW.out]; simp [h0, h1]), HB1.out⟩
    · go_enter Try.func28, Try.ntmps28
      rcases hk with rfl | rfl
      all_goals
        go_wp2_with (go_at_call 18; refine C.out.mono ?_; rintro en w1 ⟨rfl, hb⟩; have HB1 := Lib.hid (below_next HB.out hb); clear hb)
        go_ret
        exact ⟨ret_bool (by rw [HW.out]; simp; omega), HB1.out⟩
  · have HW := Lib.hid (show behF t = true by unfold behF; rw [if_neg hk])
    rw [← hn.kind] at hk
    obtain ⟨h16, h17⟩ : d.kind ≠ 16 ∧ d.kind ≠ 17 := ⟨fun e => hk (.inl e), fun e => hk (.inr e)⟩
    clear hn hR hk
    obtain ⟨dk, dsA, dsn, dsc, dkA, dkn, dkc, dnum, dleast, dmost, dway, dfold⟩ := d
    unfold ND.agg
    unfold ND.box at HB
    simp only at HB h16 h17 ⊢
    have hb1 : (dk != 16) = true := bne_iff_ne.2 h16
    have hb2 : (dk != 17) = true := bne_iff_ne.2 h17
    go_enter Try.func28, Try.ntmps28
    go_wp2_with fail
    go_ret
    rw [HW.out]
    exact ⟨rfl, HB.out⟩
end Go.Proofs.Ytbekjfoefjnidaa
