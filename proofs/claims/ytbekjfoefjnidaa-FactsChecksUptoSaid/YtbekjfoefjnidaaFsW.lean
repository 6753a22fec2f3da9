/- Wide of the reference: either; all: walked. -/
import Derived.Test.YtbekjfoefjnidaaFsV
namespace Go.Proofs.Ytbekjfoefjnidaa
open Go.RowKit
set_option linter.unusedVariables false
theorem eitherW_eq (s r : Int × Int) : eitherW s r = (min s.1 r.1, if s.2 < 0 then -1 else if r.2 < 0 then -1 else max s.2 r.2) := by
  unfold eitherW
  congr 1
  by_cases h1 : s.2 < 0
  · rw [if_pos (.inl h1), if_pos h1]
  · by_cases h2 : r.2 < 0
    · rw [if_pos (.inr h2), if_neg h1, if_pos h2]
    · rw [if_neg (by omega), if_neg h1, if_neg h2]
theorem min_if (a b : Int) : min a b = if b < a then b else a := by split <;> omega
theorem max_if (a b : Int) : max a b = if a < b then b else a := by split <;> omega
set_option maxRecDepth 100000 in
set_option maxHeartbeats 4000000 in
theorem ref_either (t : Tr) (ih : ∀ k ∈ t.kids, RefLaw k) (hk : t.kind = 10) : RefLaw t := by
  intro d w hn hr
  obtain ⟨ds, hn⟩ := hn.of
  have hone : 2 ≤ t.kids.length := by
    have h := right_kids (hr t (by rw [flatT_eq]; simp))
    unfold kidsBad at h
    rw [if_pos (by omega)] at h
    simpa using h
  have HN := Lib.hid hn
  have HK := Lib.hid hn.knum
  have HB := Lib.hid (ND.box_below w d)
  have HX := Lib.hid (BoxN.new w d)
  have HRK := Lib.hid (fun (k : Tr) (hk : k ∈ t.kids) x (hx : x ∈ flatT k) => hr x (flat_kid hk hx))
  have HIH := Lib.hid ih
  have HW := Lib.hid (show widT t = (widL (t.kids.drop 1)).foldl eitherW (widT (t.kids[0]'(by omega))) by
    rw [widT_eq]; unfold widK; rw [if_neg (by omega), if_neg (by omega), if_neg (by omega), if_neg (by omega), if_neg (by omega), if_pos hk, widL_map, widL_map, headD_map, List.map_drop, List.drop_one])
  have hkc := hn.kc1
  have hkm := hn.kc2
  unfold maxLen at hkm
  have hkn : 2 ≤ d.kn := by have := hn.knum.1; omega
  have hdl : 0 < ds.length := by have := hn.knum.2; omega
  obtain ⟨b1, off1, hl1, hA, hb1, c0, c1, c2, c3, c4, c5, c6, c7⟩ := (hn.kids.below (ND.box_below w d) (Nat.le_refl _)).node_at (show 0 < d.kn by omega)
  have C := Lib.hid (ih _ (List.getElem_mem (show 0 < t.kids.length by omega)) ds[0] (d.box w) ((hn.each.at 0 (by omega) hdl).next (ND.box_below w d)) (HRK.out _ (List.getElem_mem _)))
  have HOK0 := Lib.hid (widT_ok _ (HRK.out _ (List.getElem_mem (show 0 < t.kids.length by omega))))
  rw [← hn.kind] at hk
  obtain ⟨e, he⟩ : ∃ x, x = ds[0] := ⟨_, rfl⟩
  rw [← he] at c0 c1 c2 c3 c4 c5 c6 c7 C
  obtain ⟨r, hrr⟩ : ∃ x, x = widT (t.kids[0]'(by omega)) := ⟨_, rfl⟩
  rw [← hrr] at HW C HOK0
  clear he hn hr ih hrr hdl hl1
  obtain ⟨dk, dsA, dsn, dsc, dkA, dkn, dkc, dnum, dleast, dmost, dway, dfold⟩ := d
  simp only at hA hk hkn hkc hkm HK
  subst hk
  have HAA := Lib.hid hA
  subst hA
  unfold wT at C
  unfold ND.agg at C ⊢
  unfold ND.box at *
  simp only at C HB HX c0 c1 c2 c3 c4 c5 c6 c7 ⊢
  simp only [Nat.zero_mul, Nat.add_zero] at c0 c1 c2 c3 c4 c5 c6 c7
  obtain ⟨r1, r2⟩ := r
  have i0 : (0 : Int) < (dkn : Int) := by omega
  go_enter Try.func10, Try.ntmps10
  go_wp2_with (go_at_call 10; refine C.out.mono ?_; rintro en w1 ⟨rfl, hb⟩; have HB1 := Lib.hid hb; clear hb)
  generalize hW0 : w.alloc (.cells #[.int .i64 10, .slice dsA dsn dsc, .slice (some ⟨b1, off1, none⟩) dkn dkc, .int .i64 dnum, .int .i64 dleast, .int .i64 dmost, .int .i64 dway, .bool dfold] 25) = W0 at *
  clear hW0 c0 c1 c2 c3 c4 c5 c6 c7 hb1
  go_loopw [10, 11, 12] (fun a b i wr => ∃ (k : Nat) (s : Int × Int), 1 ≤ k ∧ k ≤ dkn ∧ i = .int .i64 k ∧ a = .int .i64 s.1 ∧ b = .int .i64 s.2 ∧ Hid ((widL (t.kids.drop k)).foldl eitherW s = (widL (t.kids.drop 1)).foldl eitherW (r1, r2)) ∧ Hid (okW s) ∧ Hid (Below W0.heap.size W0 wr)) (fun _ _ i _ => dkn - (intOf i).toNat)
  case atStart => exact ⟨1, (r1, r2), Nat.le_refl _, by omega, rfl, rfl, rfl, Lib.hid rfl, HOK0, HB1⟩
  case round =>
    obtain ⟨k, s, hk1, hkk, rfl, rfl, rfl, HS, HOK, HB2⟩ := hrel
    have HBr := Lib.hid (HB.out.trans (HB2.out.mono HB.out.size))
    obtain ⟨x0, x1, x2, x3, x4, x5, x6, x7, x8⟩ := HX.out.next HB2.out
    by_cases hlt : k < dkn
    · obtain ⟨b1', off1', hl1, hAA', hb1, c0, c1, c2, c3, c4, c5, c6, c7⟩ := (HN.out.kids.below HBr.out (Nat.le_refl _)).node_at hlt
      injection hAA' with hAA'
      injection hAA' with hq1 hq2 _
      subst hq1 hq2
      have hkl : k < t.kids.length := by rw [HK.out.1]; exact hlt
      have HKID := Lib.hid (HN.out.each.at k hkl hl1)
      have HD := Lib.hid (widL_drop t.kids k hkl eitherW s)
      have HRI := Lib.hid (HRK.out _ (List.getElem_mem hkl))
      have HI := Lib.hid (HIH.out _ (List.getElem_mem hkl))
      obtain ⟨kid, hkid⟩ : ∃ x, x = t.kids[k] := ⟨_, rfl⟩
      rw [← hkid] at HKID HD HRI HI
      clear hkid
      obtain ⟨e2, he⟩ : ∃ x, x = ds[k] := ⟨_, rfl⟩
      rw [← he] at c0 c1 c2 c3 c4 c5 c6 c7 HKID
      clear he
      have k2 : (k : Int) < (dkn : Int) := by omega
      have C2 := Lib.hid (HI.out e2 wr (NodeAt.map (fun r => (r.below HBr.out (Nat.le_refl _)).more HBr.out.size) _ _ HKID.out) HRI.out)
      have HOKK := Lib.hid (widT_ok kid HRI.out)
      obtain ⟨r', hrr⟩ : ∃ x, x = widT kid := ⟨_, rfl⟩
      rw [← hrr] at C2 HOKK HD
      clear hrr
      have HAW := Lib.hid (eitherW_eq s r')
      rw [min_if, max_if] at HAW
      unfold ND.agg wT at C2
      obtain ⟨q1, q2⟩ := r'
      obtain ⟨s1, s2⟩ := s
      simp only at HAW
      by_cases h0 : q1 < s1
      all_goals
        (first | rw [if_pos h0] at HAW | rw [if_neg h0] at HAW)
        by_cases h1 : s2 < 0
        · rw [if_pos h1] at HAW
          go_wp2_with (go_at_call 10; refine C2.out.mono ?_; rintro en w3 ⟨rfl, hb⟩; have HB3 := Lib.hid (below_next HB2.out hb); clear hb)
          go_roundw
          case rel => exact ⟨k + 1, eitherW (s1, s2) (q1, q2), by omega, by omega, by go_num, by rw [HAW.out], by rw [HAW.out], Lib.hid (HD.out.symm.trans HS.out), Lib.hid (okW_either HOK.out HOKK.out), HB3⟩
          case measure => simp [intOf]; omega
        · rw [if_neg h1] at HAW
          by_cases h2 : q2 < 0
          · rw [if_pos h2] at HAW
            go_wp2_with (go_at_call 10; refine C2.out.mono ?_; rintro en w3 ⟨rfl, hb⟩; have HB3 := Lib.hid (below_next HB2.out hb); clear hb)
            go_roundw
            case rel => exact ⟨k + 1, eitherW (s1, s2) (q1, q2), by omega, by omega, by go_num, by rw [HAW.out], by rw [HAW.out], Lib.hid (HD.out.symm.trans HS.out), Lib.hid (okW_either HOK.out HOKK.out), HB3⟩
            case measure => simp [intOf]; omega
          · rw [if_neg h2] at HAW
            by_cases h3 : s2 < q2
            all_goals
              (first | rw [if_pos h3] at HAW | rw [if_neg h3] at HAW)
              go_wp2_with (go_at_call 10; refine C2.out.mono ?_; rintro en w3 ⟨rfl, hb⟩; have HB3 := Lib.hid (below_next HB2.out hb); clear hb)
              go_roundw
              case rel => exact ⟨k + 1, eitherW (s1, s2) (q1, q2), by omega, by omega, by go_num, by rw [HAW.out], by rw [HAW.out], Lib.hid (HD.out.symm.trans HS.out), Lib.hid (okW_either HOK.out HOKK.out), HB3⟩
              case measure => simp [intOf]; omega
    · obtain rfl : k = dkn := by omega
      have HZ := Lib.hid (show t.kids.drop k = [] from List.drop_of_length_le (by rw [HK.out.1]; exact Nat.le_refl _))
      have HF := Lib.hid (show widT t = s by rw [HW.out, ← HS.out, HZ.out]; rfl)
      obtain ⟨s1, s2⟩ := s
      go_wp2_with fail
      go_ret2
      rw [HF.out]
      exact ⟨rfl, HBr.out⟩
theorem wideR (t : Tr) : RefLaw t := by
  refine tree_ind (P := RefLaw) (fun t ih => ?_) t
  by_cases h2 : t.kind = 2
  · exact ref_set t (by rw [widT_eq]; unfold widK; rw [if_pos h2]) h2
  by_cases h18 : t.kind = 18
  · exact ref_again t (by rw [widT_eq]; unfold widK; rw [if_neg h2, if_pos h18]) h18
  by_cases h11 : t.kind = 11 ∨ t.kind = 13
  · exact ref_group t ih h11
  by_cases h12 : t.kind = 12
  · exact ref_rep t ih h12
  by_cases h9 : t.kind = 9
  · exact ref_row t ih h9
  by_cases h10 : t.kind = 10
  · exact ref_either t ih h10
  exact ref_none t (by rw [widT_eq]; unfold widK; rw [if_neg h2, if_neg h18, if_neg h11, if_neg h12, if_neg h9, if_neg h10]) ⟨h2, h18, by omega, by omega, h12, h9, h10⟩
end Go.Proofs.Ytbekjfoefjnidaa
