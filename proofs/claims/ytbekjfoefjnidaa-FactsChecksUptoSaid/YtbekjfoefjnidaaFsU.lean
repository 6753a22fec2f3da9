/- Wide of the reference: walked. -/
import Derived.Test.YtbekjfoefjnidaaFsS
import Derived.Test.YtbekjfoefjnidaaFsP
namespace Go.Proofs.Ytbekjfoefjnidaa
open Go.RowKit
set_option linter.unusedVariables false
def wT (p : Int × Int) : Value := .tuple #[.int .i64 p.1, .int .i64 p.2]
set_option maxHeartbeats 1000000 in
theorem cap24 (a b : Int) (w : World) : Calls Try.prog 24 #[.int .i64 a, .int .i64 b] w fun e w' => e = .returned (wT (capW (a, b))) ∧ w = w' := by
  have HC := Lib.hid (show capW (a, b) = (min a 1000000, if 1000000 < b then -1 else b) from rfl)
  rw [HC.out]
  unfold wT
  simp only
  by_cases h1 : 1000000 < a
  · have m1 : min a 1000000 = 1000000 := by omega
    by_cases h2 : 1000000 < b
    · rw [m1, if_pos h2]
      clear m1
      go_enter Try.func24, Try.ntmps24
      go_wp2
      go_ret2
      exact ⟨rfl, rfl⟩
    · rw [m1, if_neg h2]
      clear m1
      go_enter Try.func24, Try.ntmps24
      go_wp2
      go_ret2
      exact ⟨rfl, rfl⟩
  · have m1 : min a 1000000 = a := by omega
    by_cases h2 : 1000000 < b
    · rw [m1, if_pos h2]
      clear m1
      go_enter Try.func24, Try.ntmps24
      go_wp2
      go_ret2
      exact ⟨rfl, rfl⟩
    · rw [m1, if_neg h2]
      clear m1
      go_enter Try.func24, Try.ntmps24
      go_wp2
      go_ret2
      exact ⟨rfl, rfl⟩
def RefLaw (t : Tr) : Prop := ∀ (d : ND) (w : World), NodeAt w w.heap.size t d → (∀ x ∈ flatT t, rightE x = 0) → Calls Try.prog 10 #[d.agg] w fun e w' => e = .returned (wT (widT t)) ∧ Below w.heap.size w w'
set_option maxRecDepth 100000 in
set_option maxHeartbeats 2000000 in
theorem ref_none (t : Tr) (h : widT t = (0, 0)) (hk : t.kind ≠ 2 ∧ t.kind ≠ 18 ∧ t.kind ≠ 11 ∧ t.kind ≠ 13 ∧ t.kind ≠ 12 ∧ t.kind ≠ 9 ∧ t.kind ≠ 10) : RefLaw t := by
  intro d w hn _
  obtain ⟨ds, hn⟩ := hn.of
  have HB0 := Lib.hid (ND.box_below w d)
  rw [h, ← hn.kind] at *
  obtain ⟨k1, k2, k3, k4, k5, k6, k7⟩ := hk
  clear hn h
  obtain ⟨dk, dsA, dsn, dsc, dkA, dkn, dkc, dnum, dleast, dmost, dway, dfold⟩ := d
  unfold ND.agg wT
  unfold ND.box at HB0
  simp only at k1 k2 k3 k4 k5 k6 k7 HB0 ⊢
  have e2 : (dk == 2) = false := beq_eq_false_iff_ne.2 k1
  have e18 : (dk == 18) = false := beq_eq_false_iff_ne.2 k2
  have e11 : (dk == 11) = false := beq_eq_false_iff_ne.2 k3
  have e13 : (dk == 13) = false := beq_eq_false_iff_ne.2 k4
  have e12 : (dk == 12) = false := beq_eq_false_iff_ne.2 k5
  have e9 : (dk == 9) = false := beq_eq_false_iff_ne.2 k6
  have e10 : (dk == 10) = false := beq_eq_false_iff_ne.2 k7
  clear k1 k2 k3 k4 k5 k6 k7
  go_enter Try.func10, Try.ntmps10
  go_wp2
  go_ret2
  exact ⟨rfl, HB0.out⟩
set_option maxRecDepth 100000 in
set_option maxHeartbeats 2000000 in
theorem ref_set (t : Tr) (h : widT t = (1, 1)) (hk : t.kind = 2) : RefLaw t := by
  intro d w hn _
  obtain ⟨ds, hn⟩ := hn.of
  have HB0 := Lib.hid (ND.box_below w d)
  have hk := hn.kind.trans hk
  rw [h]
  clear hn h
  obtain ⟨dk, dsA, dsn, dsc, dkA, dkn, dkc, dnum, dleast, dmost, dway, dfold⟩ := d
  unfold ND.agg wT
  unfold ND.box at HB0
  simp only at hk HB0 ⊢
  subst hk
  go_enter Try.func10, Try.ntmps10
  go_wp2
  go_ret2
  exact ⟨rfl, HB0.out⟩
set_option maxRecDepth 100000 in
set_option maxHeartbeats 2000000 in
theorem ref_again (t : Tr) (h : widT t = (0, -1)) (hk : t.kind = 18) : RefLaw t := by
  intro d w hn _
  obtain ⟨ds, hn⟩ := hn.of
  have HB0 := Lib.hid (ND.box_below w d)
  have hk := hn.kind.trans hk
  rw [h]
  clear hn h
  obtain ⟨dk, dsA, dsn, dsc, dkA, dkn, dkc, dnum, dleast, dmost, dway, dfold⟩ := d
  unfold ND.agg wT
  unfold ND.box at HB0
  simp only at hk HB0 ⊢
  subst hk
  go_enter Try.func10, Try.ntmps10
  go_wp2
  go_ret2
  exact ⟨rfl, HB0.out⟩
/-- what the walks of those with kids begin with -/
theorem ref_one {t : Tr} (hk : 11 ≤ t.kind ∧ t.kind ≤ 17) (hr : ∀ x ∈ flatT t, rightE x = 0) : t.kids.length = 1 := by
  have h := right_kids (hr t (by rw [flatT_eq]; simp))
  unfold kidsBad at h
  rw [if_neg (by omega), if_pos hk] at h
  simpa using h
set_option maxRecDepth 100000 in
set_option maxHeartbeats 2000000 in
theorem ref_group (t : Tr) (ih : ∀ k ∈ t.kids, RefLaw k) (hk : t.kind = 11 ∨ t.kind = 13) : RefLaw t := by
  intro d w hn hr
  obtain ⟨ds, hn⟩ := hn.of
  have HB := Lib.hid (ND.box_below w d)
  have hone := ref_one (by omega) hr
  have hkn : d.kn = 1 := by have := hn.knum.1; omega
  have hdl : 0 < ds.length := by have := hn.knum.2; omega
  have HKID := Lib.hid (hn.each.at 0 (by omega) hdl)
  have HRK := Lib.hid (fun x (hx : x ∈ flatT (t.kids[0]'(by omega))) => hr x (flat_kid (List.getElem_mem (by omega)) hx))
  have HIH := Lib.hid (ih _ (List.getElem_mem (show 0 < t.kids.length by omega)))
  have HW := Lib.hid (show widT t = widT (t.kids[0]'(by omega)) by
    rw [widT_eq]
    unfold widK
    rw [if_neg (by omega), if_neg (by omega), if_pos hk, widL_map]
    exact headD_map _ _)
  obtain ⟨b1, off1, hl1, hA, hb1, c0, c1, c2, c3, c4, c5, c6, c7⟩ := (hn.kids.below (ND.box_below w d) (Nat.le_refl _)).node_at (show 0 < d.kn by omega)
  have C := Lib.hid (HIH.out ds[0] (d.box w) (HKID.out.next (ND.box_below w d)) HRK.out)
  have hkc := hn.kc1
  rw [← hn.kind] at hk
  obtain ⟨e, he⟩ : ∃ x, x = ds[0] := ⟨_, rfl⟩
  rw [← he] at c0 c1 c2 c3 c4 c5 c6 c7 C
  obtain ⟨r, hrr⟩ : ∃ x, x = widT (t.kids[0]'(by omega)) := ⟨_, rfl⟩
  rw [← hrr] at HW C
  clear he hn hr ih HKID HRK HIH hrr hdl hl1 hone
  obtain ⟨dk, dsA, dsn, dsc, dkA, dkn, dkc, dnum, dleast, dmost, dway, dfold⟩ := d
  simp only at hA hk hkn hkc
  subst hkn
  have HAA := Lib.hid hA
  subst hA
  rw [HW.out]
  unfold wT at C ⊢
  unfold ND.agg at C ⊢
  unfold ND.box at *
  simp only at C HB c0 c1 c2 c3 c4 c5 c6 c7 ⊢
  simp only [Nat.zero_mul, Nat.add_zero] at c0 c1 c2 c3 c4 c5 c6 c7
  obtain ⟨r1, r2⟩ := r
  have i0 : (0 : Int) < ((1 : Nat) : Int) := by decide
  go_enter Try.func10, Try.ntmps10
  rcases hk with rfl | rfl
  all_goals
    go_wp2_with (go_at_call 10; refine C.out.mono ?_; rintro en w1 ⟨rfl, hb⟩; have HB1 := Lib.hid (below_next HB.out hb); clear hb)
    go_ret2
    exact ⟨rfl, HB1.out⟩
set_option maxRecDepth 100000 in
set_option maxHeartbeats 2000000 in
theorem ref_rep (t : Tr) (ih : ∀ k ∈ t.kids, RefLaw k) (hk : t.kind = 12) : RefLaw t := by
  intro d w hn hr
  obtain ⟨ds, hn⟩ := hn.of
  have HB := Lib.hid (ND.box_below w d)
  have HX := Lib.hid (BoxN.new w d)
  have hone := ref_one (by omega) hr
  have hkn : d.kn = 1 := by have := hn.knum.1; omega
  have hdl : 0 < ds.length := by have := hn.knum.2; omega
  have HKID := Lib.hid (hn.each.at 0 (by omega) hdl)
  have HRK := Lib.hid (fun x (hx : x ∈ flatT (t.kids[0]'(by omega))) => hr x (flat_kid (List.getElem_mem (by omega)) hx))
  have HIH := Lib.hid (ih _ (List.getElem_mem (show 0 < t.kids.length by omega)))
  have HW := Lib.hid (show widT t = timesW (widT (t.kids[0]'(by omega))) t.least t.most by
    rw [widT_eq]
    unfold widK
    rw [if_neg (by omega), if_neg (by omega), if_neg (by omega), if_pos hk, widL_map, headD_map])
  obtain ⟨b1, off1, hl1, hA, hb1, c0, c1, c2, c3, c4, c5, c6, c7⟩ := (hn.kids.below (ND.box_below w d) (Nat.le_refl _)).node_at (show 0 < d.kn by omega)
  have C := Lib.hid (HIH.out ds[0] (d.box w) (HKID.out.next (ND.box_below w d)) HRK.out)
  have hrep := rightE_rep (hr t (by rw [flatT_eq]; simp)) hk
  have HOK := widT_ok _ HRK.out
  rw [← hn.least, ← hn.most] at hrep HW
  have hkc := hn.kc1
  rw [← hn.kind] at hk
  obtain ⟨e, he⟩ : ∃ x, x = ds[0] := ⟨_, rfl⟩
  rw [← he] at c0 c1 c2 c3 c4 c5 c6 c7 C
  obtain ⟨r, hrr⟩ : ∃ x, x = widT (t.kids[0]'(by omega)) := ⟨_, rfl⟩
  rw [← hrr] at HW C HOK
  clear he hn hr ih HKID HRK HIH hrr hdl hl1 hone
  obtain ⟨dk, dsA, dsn, dsc, dkA, dkn, dkc, dnum, dleast, dmost, dway, dfold⟩ := d
  simp only at hA hk hkn hkc hrep HW
  subst hkn
  have HAA := Lib.hid hA
  subst hA
  obtain ⟨r1, r2⟩ := r
  obtain ⟨p1, p2, p3, p4⟩ := hrep
  have HBD := mul_bounds HOK p1 p2 p3 p4
  obtain ⟨⟨q1, q2⟩, q3, q4⟩ := HBD
  unfold okW at HOK
  simp only at HOK
  obtain ⟨⟨o1, o2⟩, o3, o4⟩ := HOK
  have HT := Lib.hid (times_ref (r1, r2) dleast dmost)
  rw [HW.out, HT.out]
  unfold wT at C
  unfold ND.agg at C ⊢
  unfold ND.box at *
  simp only at C HB HX HT c0 c1 c2 c3 c4 c5 c6 c7 ⊢
  simp only [Nat.zero_mul, Nat.add_zero] at c0 c1 c2 c3 c4 c5 c6 c7
  have i0 : (0 : Int) < ((1 : Nat) : Int) := by decide
  subst hk
  go_enter Try.func10, Try.ntmps10
  by_cases h1 : r2 = 0
  · rw [if_pos (.inl h1)]
    have z1 : (r2 == 0) = true := by simp [h1]
    clear h1 o3 o4
    go_wp2_with (first
      | (go_at_call 10; refine C.out.mono ?_; rintro en w1 ⟨rfl, hb⟩; have HB1 := Lib.hid (below_next HB.out hb); obtain ⟨x0, x1, x2, x3, x4, x5, x6, x7, x8⟩ := HX.out.next hb; clear hb)
      | (go_at_call 24; refine (cap24 _ _ _).mono ?_; rintro en w2 ⟨rfl, rfl⟩; unfold wT))
    go_ret2
    exact ⟨rfl, HB1.out⟩
  · have z1 : (r2 == 0) = false := beq_eq_false_iff_ne.2 h1
    by_cases h2 : dmost = 0
    · rw [if_pos (.inr h2)]
      subst h2
      clear h1
      go_wp2_with (first
        | (go_at_call 10; refine C.out.mono ?_; rintro en w1 ⟨rfl, hb⟩; have HB1 := Lib.hid (below_next HB.out hb); obtain ⟨x0, x1, x2, x3, x4, x5, x6, x7, x8⟩ := HX.out.next hb; clear hb)
        | (go_at_call 24; refine (cap24 _ _ _).mono ?_; rintro en w2 ⟨rfl, rfl⟩; unfold wT))
      go_ret2
      exact ⟨rfl, HB1.out⟩
    · rw [if_neg (by omega)]
      have z2 : (dmost == 0) = false := beq_eq_false_iff_ne.2 h2
      clear h1 h2
      by_cases h3 : r2 < 0
      · rw [if_pos (.inl h3)]
        go_wp2_with (first
          | (go_at_call 10; refine C.out.mono ?_; rintro en w1 ⟨rfl, hb⟩; have HB1 := Lib.hid (below_next HB.out hb); obtain ⟨x0, x1, x2, x3, x4, x5, x6, x7, x8⟩ := HX.out.next hb; clear hb)
          | (go_at_call 24; refine (cap24 _ _ _).mono ?_; rintro en w2 ⟨rfl, rfl⟩; unfold wT))
        go_ret2
        exact ⟨rfl, HB1.out⟩
      · by_cases h4 : dmost < 0
        · rw [if_pos (.inr h4)]
          go_wp2_with (first
            | (go_at_call 10; refine C.out.mono ?_; rintro en w1 ⟨rfl, hb⟩; have HB1 := Lib.hid (below_next HB.out hb); obtain ⟨x0, x1, x2, x3, x4, x5, x6, x7, x8⟩ := HX.out.next hb; clear hb)
            | (go_at_call 24; refine (cap24 _ _ _).mono ?_; rintro en w2 ⟨rfl, rfl⟩; unfold wT))
          go_ret2
          exact ⟨rfl, HB1.out⟩
        · rw [if_neg (by omega)]
          go_wp2_with (first
            | (go_at_call 10; refine C.out.mono ?_; rintro en w1 ⟨rfl, hb⟩; have HB1 := Lib.hid (below_next HB.out hb); obtain ⟨x0, x1, x2, x3, x4, x5, x6, x7, x8⟩ := HX.out.next hb; clear hb)
            | (go_at_call 24; refine (cap24 _ _ _).mono ?_; rintro en w2 ⟨rfl, rfl⟩; unfold wT))
          go_ret2
          exact ⟨rfl, HB1.out⟩
end Go.Proofs.Ytbekjfoefjnidaa
