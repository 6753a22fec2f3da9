/- wide: one of them; all together: walked. -/
import Derived.Test.YtbekjfoefjnidaaFsN
namespace Go.Proofs.Ytbekjfoefjnidaa
open Go.RowKit
set_option linter.unusedVariables false
set_option maxRecDepth 100000 in
set_option maxHeartbeats 4000000 in
theorem wide_either (t : Tr) (ih : ∀ k ∈ t.kids, WideLaw k) (hk : t.kind = 10) : WideLaw t := by
  intro d w hn hr
  obtain ⟨ds, hn⟩ := hn.of
  have hone : 2 ≤ t.kids.length := by
    have h := right_kids (hr t (by rw [flatT_eq]; simp))
    unfold kidsBad at h
    rw [if_pos (by omega)] at h
    simpa using h
  have HN := Lib.hid hn
  have HK := Lib.hid hn.knum
  have HB := Lib.hid (wideW_below w d)
  have HRES := Lib.hid (show TwoAt (wideW w d) (w.heap.size + 1) (0, 0) from by have h := TwoAt.new (d.box w) 0 0; rwa [ND.box_size] at h)
  have HRK := Lib.hid (fun (k : Tr) (hk : k ∈ t.kids) x (hx : x ∈ flatT k) => hr x (flat_kid hk hx))
  have HIH := Lib.hid ih
  have HW := Lib.hid (show widT t = (widL (t.kids.drop 1)).foldl eitherW (widT (t.kids[0]'(by omega))) by
    rw [widT_eq]; unfold widK; rw [if_neg (by omega), if_neg (by omega), if_neg (by omega), if_neg (by omega), if_neg (by omega), if_pos hk, widL_map, widL_map, headD_map, List.map_drop, List.drop_one])
  have hkc := hn.kc1
  have hkm := hn.kc2
  unfold maxLen at hkm
  have hkn : 2 ≤ d.kn := by have := hn.knum.1; omega
  have hdl : 0 < ds.length := by have := hn.knum.2; omega
  obtain ⟨b1, off1, hl1, hA, hb1, c0, c1, c2, c3, c4, c5, c6, c7⟩ := (hn.kids.below (wideW_below w d) (Nat.le_refl _)).node_at (show 0 < d.kn by omega)
  have C := Lib.hid (ih _ (List.getElem_mem (show 0 < t.kids.length by omega)) ds[0] (wideW w d) (NodeAt.map (fun r => (r.below (wideW_below w d) (Nat.le_refl _)).more (wideW_below w d).size) _ _ (hn.each.at 0 (by omega) hdl)) (HRK.out _ (List.getElem_mem _)))
  have HOK0 := Lib.hid (widT_ok _ (HRK.out _ (List.getElem_mem (show 0 < t.kids.length by omega))))
  rw [← hn.kind] at hk
  obtain ⟨e, he⟩ : ∃ x, x = ds[0] := ⟨_, rfl⟩
  rw [← he] at c0 c1 c2 c3 c4 c5 c6 c7 C
  obtain ⟨r, hrr⟩ : ∃ x, x = widT (t.kids[0]'(by omega)) := ⟨_, rfl⟩
  rw [← hrr] at HW C HOK0
  clear he hn hr ih hrr hdl hl1
  obtain ⟨dk, dsA, dsn, dsc, dkA, dkn, dkc, dnum, dleast, dmost, dway, dfold⟩ := d
  simp only at hA hk hkn hkc hkm HK
  subst hk
  have HAA := Lib.hid hA
  subst hA
  unfold ND.agg at C ⊢
  unfold wideW ND.box at *
  simp only at C HB HRES c0 c1 c2 c3 c4 c5 c6 c7 ⊢
  simp only [Nat.zero_mul, Nat.add_zero] at c0 c1 c2 c3 c4 c5 c6 c7
  obtain ⟨r1, r2⟩ := r
  obtain ⟨m, rfl⟩ : ∃ m, dkn = m + 1 := ⟨dkn - 1, by omega⟩
  have i0 : (0 : Int) < ((m + 1 : Nat) : Int) := by omega
  have i1 : (1 : Int) ≤ ((m + 1 : Nat) : Int) := by omega
  have HXX := Lib.hid ((BoxN.new w ⟨10, dsA, dsn, dsc, some ⟨b1, off1, none⟩, m + 1, dkc, dnum, dleast, dmost, dway, dfold⟩).next ((Below.refl _ _).alloc (Nat.le_refl _) (.cells #[.int .i64 0, .int .i64 0] 59)))
  unfold ND.box at HXX
  go_enter Try.func33, Try.ntmps33
  go_wp2_with (go_at_call 33; refine C.out.mono ?_; rintro en w1 ⟨rfl, hb⟩; have HR1 := Lib.hid (HRES.out.next hb); have HB1 := Lib.hid (below_next HB.out hb); obtain ⟨x0, x1, x2, x3, x4, x5, x6, x7, x8⟩ := HXX.out.next hb; have HX1 := Lib.hid (HXX.out.next hb); clear hb; unfold wV)
  have HA1 := Lib.hid (TwoAt.new w1 r1 r2)
  have HAB := Lib.hid (show Below w1.heap.size w1 (w1.alloc (.cells #[.int .i64 r1, .int .i64 r2] 59)) from (Below.refl _ _).alloc (Nat.le_refl _) _)
  have HR2 := Lib.hid (HR1.out.next HAB.out)
  have HB2 := Lib.hid (below_next HB1.out HAB.out)
  have hws : w.heap.size + 1 < w1.heap.size := HR1.out.hi
  obtain ⟨A, hAg⟩ : ∃ x, x = w1.heap.size := ⟨_, rfl⟩
  rw [← hAg] at HA1 hws
  generalize hW2 : w1.alloc (.cells #[.int .i64 r1, .int .i64 r2] 59) = W2 at *
  rw [← hAg]
  clear hW2 HAB hAg HR1 HB1 HX1 x0 x1 x2 x3 x4 x5 x6 x7 x8
  go_loopw [63] (fun i wr => ∃ (k : Nat) (s : Int × Int), k ≤ m ∧ i = .int .i64 k ∧ Hid ((widL (t.kids.drop (k + 1))).foldl eitherW s = (widL (t.kids.drop 1)).foldl eitherW (r1, r2)) ∧ Hid (okW s) ∧ Hid (TwoAt wr A s) ∧ Hid (TwoAt wr (w.heap.size + 1) (0, 0)) ∧ Hid (Below w.heap.size w wr)) (fun i _ => m - (intOf i).toNat)
  case atStart => exact ⟨0, (r1, r2), Nat.zero_le _, rfl, Lib.hid rfl, HOK0, HA1, HR2, HB2⟩
  case round =>
    obtain ⟨k, s, hkk, rfl, HS, HOK, HA, HR, HBr⟩ := hrel
    clear c0 c1 c2 c3 c4 c5 c6 c7 hb1
    by_cases hlt : k < m
    · obtain ⟨b1', off1', hl1, hAA', hb1, c0, c1, c2, c3, c4, c5, c6, c7⟩ := (HN.out.kids.below HBr.out (Nat.le_refl _)).node_at (show k + 1 < m + 1 by omega)
      have hAA2 := HAA.out
      injection hAA' with hAA'
      injection hAA' with hq1 hq2 _
      subst hq1 hq2
      rw [show off1 + (k + 1) * 8 = off1 + 8 + k * 8 by omega] at c0 c1 c2 c3 c4 c5 c6 c7
      have hkl : k + 1 < t.kids.length := by rw [HK.out.1]; omega
      have HKID := Lib.hid (HN.out.each.at (k + 1) hkl hl1)
      have HD := Lib.hid (widL_drop t.kids (k + 1) hkl eitherW s)
      have HRI := Lib.hid (HRK.out _ (List.getElem_mem hkl))
      have HI := Lib.hid (HIH.out _ (List.getElem_mem hkl))
      obtain ⟨kid, hkid⟩ : ∃ x, x = t.kids[k + 1] := ⟨_, rfl⟩
      rw [← hkid] at HKID HD HRI HI
      clear hkid
      obtain ⟨e2, he⟩ : ∃ x, x = ds[k + 1] := ⟨_, rfl⟩
      rw [← he] at c0 c1 c2 c3 c4 c5 c6 c7 HKID
      clear he
      have k2 : (k : Int) < (m : Int) := by omega
      have HBX := Lib.hid (HBr.out.trans ((ND.box_below wr e2).mono HBr.out.size))
      have HBN := Lib.hid (ND.box_below wr e2)
      have HXE := Lib.hid (BoxN.new wr e2)
      have C2 := Lib.hid (HI.out e2 (e2.box wr).drew (NodeAt.map (fun r => (r.below HBX.out.drew (Nat.le_refl _)).more HBX.out.drew.size) _ _ HKID.out) HRI.out)
      have HOKK := Lib.hid (widT_ok kid HRI.out)
      obtain ⟨r', hrr⟩ : ∃ x, x = widT kid := ⟨_, rfl⟩
      rw [← hrr] at C2 HOKK HD
      clear hrr
      unfold ND.agg at C2
      unfold ND.box at C2 HBX HBN HXE
      obtain ⟨q1, q2⟩ := r'
      obtain ⟨s1, s2⟩ := s
      have HA0 := Lib.hid (HA.out.next HBN.out)
      have HR0 := Lib.hid (HR.out.next HBN.out)
      obtain ⟨a0, af, a1, a2⟩ := HA0.out
      obtain ⟨x0, x1, x2, x3, x4, x5, x6, x7, x8⟩ := HXE.out
      go_upto_region 24 with fail
      go_region_with (first
        | (go_at_call 33; refine C2.out.mono ?_; rintro en w3 ⟨rfl, hb⟩; have HA3 := Lib.hid (HA0.out.next ((Below.refl _ _).drew.trans hb)); have HR3 := Lib.hid (HR0.out.next ((Below.refl _ _).drew.trans hb)); have HB3 := Lib.hid (below_next HBX.out.drew hb); obtain ⟨y0, yf, y1, y2⟩ := HA3.out; clear hb; unfold wV)
        | (go_at_call 43; refine (either43 (s1, s2) (q1, q2) _).mono ?_; rintro en w4 ⟨rfl, hb2⟩; have HA4 := Lib.hid (HA3.out.next hb2); have HR4 := Lib.hid (HR3.out.next hb2); have HB4 := Lib.hid (below_next HB3.out hb2); obtain ⟨z0, zf, z1, z2⟩ := HA4.out; clear hb2; unfold wV))
      all_goals
        go_wp2_with fail
        go_roundw
        case rel => exact ⟨k + 1, eitherW (s1, s2) (q1, q2), by omega, by go_num, Lib.hid (HD.out.symm.trans HS.out), Lib.hid (okW_either HOK.out HOKK.out), Lib.hid (HA4.out.set _ _), Lib.hid (HR4.out.other (by omega) _ _), Lib.hid ((HB4.out.setCell (p := ⟨A, 0, none⟩) (by simp; omega) _).setCell (p := ⟨A, 1, none⟩) (by simp; omega) _)⟩
        case measure => simp [intOf]; omega
    · obtain rfl : k = m := by omega
      have HZ := Lib.hid (show t.kids.drop (k + 1) = [] from List.drop_of_length_le (by rw [HK.out.1]; exact Nat.le_refl _))
      have HF := Lib.hid (show widT t = s by rw [HW.out, ← HS.out, HZ.out]; rfl)
      obtain ⟨s1, s2⟩ := s
      obtain ⟨a0, af, a1, a2⟩ := HA.out
      obtain ⟨q0, qf, q1, q2⟩ := HR.out
      go_wp2_with fail
      (try simp only [Exit.inBlock, Exit.then])
      refine bodyPost_ret (v := wV (s1, s2)) ?_ rfl ⟨by rw [HF.out], by have hb := HBr.out; (repeat' (first | (with_reducible exact Below.refl _ _) | (with_reducible assumption) | (with_reducible refine Below.setCell ?_ (by simp <;> omega) _) | (with_reducible refine Below.alloc ?_ (by simp <;> omega) _) | (with_reducible refine Below.drew ?_)))⟩
      rw [results_cell_one rfl]
      unfold wV
      go_simp
end Go.Proofs.Ytbekjfoefjnidaa
