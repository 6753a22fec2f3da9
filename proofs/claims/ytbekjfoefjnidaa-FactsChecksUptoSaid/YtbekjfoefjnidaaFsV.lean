/- Wide of the reference: rows, and either; all: walked. -/
import Derived.Test.YtbekjfoefjnidaaFsU
namespace Go.Proofs.Ytbekjfoefjnidaa
open Go.RowKit
set_option linter.unusedVariables false
theorem addW_eq (s r : Int × Int) : addW s r = capW (s.1 + r.1, if s.2 < 0 then -1 else if r.2 < 0 then -1 else s.2 + r.2) := by
  unfold addW
  congr 2
  by_cases h1 : s.2 < 0
  · rw [if_pos (.inl h1), if_pos h1]
  · by_cases h2 : r.2 < 0
    · rw [if_pos (.inr h2), if_neg h1, if_pos h2]
    · rw [if_neg (by omega), if_neg h1, if_neg h2]
set_option maxRecDepth 100000 in
set_option maxHeartbeats 4000000 in
theorem ref_row (t : Tr) (ih : ∀ k ∈ t.kids, RefLaw k) (hk : t.kind = 9) : RefLaw t := by
  intro d w hn hr
  obtain ⟨ds, hn⟩ := hn.of
  have HN := Lib.hid hn
  have HK := Lib.hid hn.knum
  have HB := Lib.hid (ND.box_below w d)
  have HX := Lib.hid (BoxN.new w d)
  have HRK := Lib.hid (fun (k : Tr) (hk : k ∈ t.kids) x (hx : x ∈ flatT k) => hr x (flat_kid hk hx))
  have HIH := Lib.hid ih
  have HW := Lib.hid (show widT t = (widL t.kids).foldl addW (0, 0) by rw [widT_eq]; unfold widK; rw [if_neg (by omega), if_neg (by omega), if_neg (by omega), if_neg (by omega), if_pos hk])
  have hkc := hn.kc1
  have hkm := hn.kc2
  unfold maxLen at hkm
  rw [← hn.kind] at hk
  clear hn hr ih
  obtain ⟨dk, dsA, dsn, dsc, dkA, dkn, dkc, dnum, dleast, dmost, dway, dfold⟩ := d
  simp only at hk hkc hkm HK
  subst hk
  unfold ND.agg
  unfold ND.box at HB HX
  simp only at HB HX ⊢
  go_enter Try.func10, Try.ntmps10
  go_wp2_with fail
  generalize hW0 : w.alloc (.cells #[.int .i64 9, .slice dsA dsn dsc, .slice dkA dkn dkc, .int .i64 dnum, .int .i64 dleast, .int .i64 dmost, .int .i64 dway, .bool dfold] 25) = W0 at *
  clear hW0
  go_loopw [5, 6, 7] (fun a b i wr => ∃ (k : Nat) (s : Int × Int), k ≤ dkn ∧ i = .int .i64 k ∧ a = .int .i64 s.1 ∧ b = .int .i64 s.2 ∧ Hid ((widL (t.kids.drop k)).foldl addW s = (widL t.kids).foldl addW (0, 0)) ∧ okW s ∧ Hid (Below W0.heap.size W0 wr)) (fun _ _ i _ => dkn - (intOf i).toNat)
  case atStart => exact ⟨0, (0, 0), Nat.zero_le _, rfl, rfl, rfl, Lib.hid rfl, by unfold okW; simp, Lib.hid (Below.refl _ _)⟩
  case round =>
    obtain ⟨k, s, hkk, rfl, rfl, rfl, HS, hok, HB2⟩ := hrel
    have HOK := Lib.hid hok
    unfold okW at hok
    obtain ⟨⟨o1, o2⟩, o3, o4⟩ := hok
    have HBr := Lib.hid (HB.out.trans (HB2.out.mono HB.out.size))
    obtain ⟨x0, x1, x2, x3, x4, x5, x6, x7, x8⟩ := HX.out.next HB2.out
    by_cases hlt : k < dkn
    · obtain ⟨b1, off1, hl1, hAA, hb1, c0, c1, c2, c3, c4, c5, c6, c7⟩ := (HN.out.kids.below HBr.out (Nat.le_refl _)).node_at hlt
      have hkl : k < t.kids.length := by rw [HK.out.1]; exact hlt
      have HKID := Lib.hid (HN.out.each.at k hkl hl1)
      have HD := Lib.hid (widL_drop t.kids k hkl addW s)
      have HRI := Lib.hid (HRK.out _ (List.getElem_mem hkl))
      have HI := Lib.hid (HIH.out _ (List.getElem_mem hkl))
      obtain ⟨kid, hkid⟩ : ∃ x, x = t.kids[k] := ⟨_, rfl⟩
      rw [← hkid] at HKID HD HRI HI
      clear hkid
      obtain ⟨e, he⟩ : ∃ x, x = ds[k] := ⟨_, rfl⟩
      rw [← he] at c0 c1 c2 c3 c4 c5 c6 c7 HKID
      clear he
      simp only at hAA
      have HAAA := Lib.hid hAA
      subst hAA
      have k2 : (k : Int) < (dkn : Int) := by omega
      have C := Lib.hid (HI.out e wr (NodeAt.map (fun r => (r.below HBr.out (Nat.le_refl _)).more HBr.out.size) _ _ HKID.out) HRI.out)
      have hokk := widT_ok kid HRI.out
      obtain ⟨r, hrr⟩ : ∃ x, x = widT kid := ⟨_, rfl⟩
      rw [← hrr] at C hokk HD
      clear hrr
      have HOKK := Lib.hid hokk
      have HAW := Lib.hid (addW_eq s r)
      unfold ND.agg wT at C
      unfold okW at hokk
      obtain ⟨⟨u1, u2⟩, u3, u4⟩ := hokk
      obtain ⟨r1, r2⟩ := r
      obtain ⟨s1, s2⟩ := s
      simp only at o1 o2 o3 o4 u1 u2 u3 u4 HAW
      by_cases h1 : s2 < 0
      · rw [if_pos h1] at HAW
        go_wp2_with (first
          | (go_at_call 10; refine C.out.mono ?_; rintro en w1 ⟨rfl, hb⟩; have HB1 := Lib.hid (below_next HB2.out hb); clear hb)
          | (go_at_call 24; refine (cap24 _ _ _).mono ?_; rintro en w2 ⟨rfl, rfl⟩; unfold wT))
        go_roundw
        case rel => exact ⟨k + 1, addW (s1, s2) (r1, r2), by omega, by go_num, by rw [HAW.out], by rw [HAW.out], Lib.hid (HD.out.symm.trans HS.out), okW_add HOK.out HOKK.out, HB1⟩
        case measure => simp [intOf]; omega
      · rw [if_neg h1] at HAW
        by_cases h2 : r2 < 0
        · rw [if_pos h2] at HAW
          go_wp2_with (first
            | (go_at_call 10; refine C.out.mono ?_; rintro en w1 ⟨rfl, hb⟩; have HB1 := Lib.hid (below_next HB2.out hb); clear hb)
            | (go_at_call 24; refine (cap24 _ _ _).mono ?_; rintro en w2 ⟨rfl, rfl⟩; unfold wT))
          go_roundw
          case rel => exact ⟨k + 1, addW (s1, s2) (r1, r2), by omega, by go_num, by rw [HAW.out], by rw [HAW.out], Lib.hid (HD.out.symm.trans HS.out), okW_add HOK.out HOKK.out, HB1⟩
          case measure => simp [intOf]; omega
        · rw [if_neg h2] at HAW
          go_wp2_with (first
            | (go_at_call 10; refine C.out.mono ?_; rintro en w1 ⟨rfl, hb⟩; have HB1 := Lib.hid (below_next HB2.out hb); clear hb)
            | (go_at_call 24; refine (cap24 _ _ _).mono ?_; rintro en w2 ⟨rfl, rfl⟩; unfold wT))
          go_roundw
          case rel => exact ⟨k + 1, addW (s1, s2) (r1, r2), by omega, by go_num, by rw [HAW.out], by rw [HAW.out], Lib.hid (HD.out.symm.trans HS.out), okW_add HOK.out HOKK.out, HB1⟩
          case measure => simp [intOf]; omega
    · obtain rfl : k = dkn := by omega
      have HZ := Lib.hid (show t.kids.drop k = [] from List.drop_of_length_le (by rw [HK.out.1]; exact Nat.le_refl _))
      have HF := Lib.hid (show widT t = s by rw [HW.out, ← HS.out, HZ.out]; rfl)
      obtain ⟨s1, s2⟩ := s
      go_wp2_with fail
      go_ret2
      rw [HF.out]
      exact ⟨rfl, HBr.out⟩
end Go.Proofs.Ytbekjfoefjnidaa
