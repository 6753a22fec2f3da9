/- first: walked, by kinds. -/
import Derived.Test.YtbekjfoefjnidaaFsAD
import Derived.Test.YtbekjfoefjnidaaFsU
import Derived.Test.YtbekjfoefjnidaaFsR
import Derived.Test.YtbekjfoefjnidaaSetQ
namespace Go.Proofs.Ytbekjfoefjnidaa
open Go.RowKit
set_option linter.unusedVariables false
def FirstLaw (t : Tr) : Prop := ∀ (d : ND) (w : World), NodeAt w w.heap.size t d → (∀ x ∈ flatT t, rightE x = 0) → sizeT t ≤ 1000 → Calls Try.prog 29 #[d.agg] w fun e w' =>
  ∃ A n c l, e = .returned (.tuple #[.slice A n c, .bool ((widT t).1 == 0)]) ∧ n ≤ c ∧ c ≤ maxLen ∧ Rds w' w'.heap.size 2 A n (rngs l) ∧ FSet t l ∧ Below w.heap.size w w'
set_option maxRecDepth 100000 in
set_option maxHeartbeats 4000000 in
theorem first_none (t : Tr) (hm : (widT t).2 = 0) : FirstLaw t := by
  intro d w hn hr hsz
  have HR := Lib.hid hr
  obtain ⟨ds, hn⟩ := hn.of
  have HN := Lib.hid hn
  have HK := Lib.hid hn.knum
  have HB0 := Lib.hid (ND.box_below w d)
  have HX0 := Lib.hid (BoxN.new w d)
  have C18 := Lib.hid (width18 t d (d.box w) (hn.node.next (ND.box_below w d)) hr)
  have hm1 := wid_zero t hr hm
  have hkc := hn.kc1
  have hkm := hn.kc2
  unfold maxLen at hkm
  have HSC := Lib.hid (And.intro hn.sc1 hn.sc2)
  clear hn hr
  obtain ⟨dk, dsA, dsn, dsc, dkA, dkn, dkc, dnum, dleast, dmost, dway, dfold⟩ := d
  unfold ND.agg at *
  unfold ND.box at *
  simp only at HB0 HX0 C18 hkc hkm HSC HK ⊢
  obtain ⟨r, hrr⟩ : ∃ r, r = widT t := ⟨_, rfl⟩
  have HW := Lib.hid hrr
  rw [← hrr] at C18 hm hm1 ⊢
  clear hrr
  obtain ⟨r1, r2⟩ := r
  simp only at C18 hm hm1 ⊢
  subst hm hm1
  go_enter Try.func29, Try.ntmps29
  go_wp2_with (go_at_call 18; refine C18.out.mono ?_; rintro e w1 ⟨rfl, hb⟩; have HB1 := Lib.hid (below_next HB0.out hb); have HX1 := Lib.hid (HX0.out.next hb); clear hb; obtain ⟨x0, x1, x2, x3, x4, x5, x6, x7, x8⟩ := HX1.out)
  go_ret2
  exact ⟨none, 0, 0, [], rfl, Nat.le_refl _, by unfold maxLen; omega, Rds.nil_ _ _ _ _, FSet.zero (by rw [← HW.out]), HB1.out⟩
set_option maxRecDepth 100000 in
set_option maxHeartbeats 4000000 in
theorem first_set (t : Tr) (hm : (widT t).2 ≠ 0) (hk : t.kind = 2) : FirstLaw t := by
  intro d w hn hr hsz
  have HR := Lib.hid hr
  obtain ⟨ds, hn⟩ := hn.of
  have HN := Lib.hid hn
  have HK := Lib.hid hn.knum
  have HB0 := Lib.hid (ND.box_below w d)
  have HX0 := Lib.hid (BoxN.new w d)
  have C18 := Lib.hid (width18 t d (d.box w) (hn.node.next (ND.box_below w d)) hr)
  have hkc := hn.kc1
  have hkm := hn.kc2
  unfold maxLen at hkm
  have HSC := Lib.hid (And.intro hn.sc1 hn.sc2)
  have HKT := Lib.hid hk
  rw [← hn.kind] at hk
  clear hn hr
  obtain ⟨dk, dsA, dsn, dsc, dkA, dkn, dkc, dnum, dleast, dmost, dway, dfold⟩ := d
  unfold ND.agg at *
  unfold ND.box at *
  simp only at HB0 HX0 C18 hkc hkm HSC HK hk ⊢
  obtain ⟨r, hrr⟩ : ∃ r, r = widT t := ⟨_, rfl⟩
  have HW := Lib.hid hrr
  rw [← hrr] at C18 hm ⊢
  clear hrr
  obtain ⟨r1, r2⟩ := r
  simp only at C18 hm ⊢
  have hmb : (r2 == 0) = false := beq_eq_false_iff_ne.2 hm
  have HM := Lib.hid (show (widT t).2 ≠ 0 by rw [← HW.out]; exact hm)
  have hr1 : r1 = 1 := by have h := HW.out; rw [widT_eq] at h; unfold widK at h; rw [if_pos HKT.out] at h; injection h
  subst hr1
  subst hk
  go_enter Try.func29, Try.ntmps29
  go_wp2_with (go_at_call 18; refine C18.out.mono ?_; rintro e w1 ⟨rfl, hb⟩; have HB1 := Lib.hid (below_next HB0.out hb); have HX1 := Lib.hid (HX0.out.next hb); clear hb; obtain ⟨x0, x1, x2, x3, x4, x5, x6, x7, x8⟩ := HX1.out)
  go_ret2
  exact ⟨dsA, dsn, dsc, t.set, rfl, HSC.out.1, HSC.out.2, (HN.out.set.below HB1.out (Nat.le_refl _)).more HB1.out.size, FSet.set (HR.out t (by rw [flatT_eq]; simp)) HKT.out, HB1.out⟩
set_option maxRecDepth 100000 in
set_option maxHeartbeats 4000000 in
theorem first_again (t : Tr) (hm : (widT t).2 ≠ 0) (hk : t.kind = 18) : FirstLaw t := by
  intro d w hn hr hsz
  have HR := Lib.hid hr
  obtain ⟨ds, hn⟩ := hn.of
  have HN := Lib.hid hn
  have HK := Lib.hid hn.knum
  have HB0 := Lib.hid (ND.box_below w d)
  have HX0 := Lib.hid (BoxN.new w d)
  have C18 := Lib.hid (width18 t d (d.box w) (hn.node.next (ND.box_below w d)) hr)
  have hkc := hn.kc1
  have hkm := hn.kc2
  unfold maxLen at hkm
  have HSC := Lib.hid (And.intro hn.sc1 hn.sc2)
  have HKT := Lib.hid hk
  rw [← hn.kind] at hk
  clear hn hr
  obtain ⟨dk, dsA, dsn, dsc, dkA, dkn, dkc, dnum, dleast, dmost, dway, dfold⟩ := d
  unfold ND.agg at *
  unfold ND.box at *
  simp only at HB0 HX0 C18 hkc hkm HSC HK hk ⊢
  obtain ⟨r, hrr⟩ : ∃ r, r = widT t := ⟨_, rfl⟩
  have HW := Lib.hid hrr
  rw [← hrr] at C18 hm ⊢
  clear hrr
  obtain ⟨r1, r2⟩ := r
  simp only at C18 hm ⊢
  have hmb : (r2 == 0) = false := beq_eq_false_iff_ne.2 hm
  have HM := Lib.hid (show (widT t).2 ≠ 0 by rw [← HW.out]; exact hm)
  have hr1 : r1 = 0 := by have h := HW.out; rw [widT_eq] at h; unfold widK at h; rw [if_neg (by rw [HKT.out]; decide), if_pos HKT.out] at h; injection h
  subst hr1
  subst hk
  go_enter Try.func29, Try.ntmps29
  go_wp2_with (go_at_call 18; refine C18.out.mono ?_; rintro e w1 ⟨rfl, hb⟩; have HB1 := Lib.hid (below_next HB0.out hb); have HX1 := Lib.hid (HX0.out.next hb); clear hb; obtain ⟨x0, x1, x2, x3, x4, x5, x6, x7, x8⟩ := HX1.out)
  go_ret2
  refine ⟨_, 1, 1, [(0, 1114111)], rfl, Nat.le_refl _, by unfold maxLen; omega, (Rds.new w1 2 1 #[.int .i64 0, .int .i64 1114111] 46 (rngs [(0, 1114111)]) rfl rfl).more (show w1.heap.size + 1 ≤ (w1.alloc (.cells #[.int .i64 0, .int .i64 1114111] 46)).heap.size by rw [al_size]; exact Nat.le_refl _), FSet.all HM.out (by rw [HKT.out]; decide), HB1.out.alloc HB1.out.size _⟩
theorem size_kid {t k : Tr} (h : k ∈ t.kids) : sizeT k < sizeT t := by
  have h2 : ∀ ks : List Tr, k ∈ ks → sizeT k ≤ sizeL ks := by
    intro ks
    induction ks with
    | nil => intro h; cases h
    | cons x ks ih =>
      intro h
      rw [sizeL]
      rcases List.mem_cons.1 h with e | e
      · subst e; omega
      · have := ih e; omega
  have := h2 _ h
  rw [sizeT_eq t]; omega
set_option maxRecDepth 100000 in
set_option maxHeartbeats 4000000 in
theorem first_kid (t : Tr) (ih : ∀ k ∈ t.kids, FirstLaw k) (hm : (widT t).2 ≠ 0) (hk : t.kind = 11 ∨ t.kind = 12 ∨ t.kind = 13) : FirstLaw t := by
  intro d w hn hr hsz
  have HR := Lib.hid hr
  obtain ⟨ds, hn⟩ := hn.of
  have HN := Lib.hid hn
  have HK := Lib.hid hn.knum
  have HB0 := Lib.hid (ND.box_below w d)
  have HX0 := Lib.hid (BoxN.new w d)
  have C18 := Lib.hid (width18 t d (d.box w) (hn.node.next (ND.box_below w d)) hr)
  have hone := ref_one (by omega) hr
  have hkn : d.kn = 1 := by have := hn.knum.1; omega
  have hdl : 0 < ds.length := by have := hn.knum.2; omega
  have CK := Lib.hid (fun (w1 : World) (h : Below w.heap.size w w1) => ih _ (List.getElem_mem (show 0 < t.kids.length by omega)) ds[0] w1 (NodeAt.map (fun r => (r.below h (Nat.le_refl _)).more h.size) _ _ (hn.each.at 0 (by omega) hdl)) (fun x hx => hr x (flat_kid (List.getElem_mem _) hx)) (by have := size_kid (List.getElem_mem (show 0 < t.kids.length by omega)); omega))
  have HSK := Lib.hid (Nat.le_of_lt (size_kid (List.getElem_mem (show 0 < t.kids.length by omega))))
  have HN2 := Lib.hid (show t.kind ≠ 2 by omega)
  have hkc := hn.kc1
  have hkm := hn.kc2
  unfold maxLen at hkm
  have HSC := Lib.hid (And.intro hn.sc1 hn.sc2)
  rw [← hn.kind] at hk
  obtain ⟨b1, off1, hl1, hA, hb1, c0, c1, c2, c3, c4, c5, c6, c7⟩ := (hn.kids.below (ND.box_below w d) (Nat.le_refl _)).node_at (show 0 < d.kn by omega)
  have hbl : b1 < (d.box w).heap.size := Nat.lt_of_lt_of_le hb1 (ND.box_below w d).size
  obtain ⟨e, he⟩ : ∃ x, x = ds[0] := ⟨_, rfl⟩
  rw [← he] at c0 c1 c2 c3 c4 c5 c6 c7 CK
  obtain ⟨kd, hkd⟩ : ∃ x, x = t.kids[0]'(by omega) := ⟨_, rfl⟩
  rw [← hkd] at CK HSK
  clear hn hr he hkd hdl hl1 hone ih
  obtain ⟨dk, dsA, dsn, dsc, dkA, dkn, dkc, dnum, dleast, dmost, dway, dfold⟩ := d
  simp only at hA hkn
  subst hkn
  have HAA := Lib.hid hA
  subst hA
  unfold ND.agg at *
  unfold ND.box at *
  simp only at HB0 HX0 C18 hkc hkm HSC HK hk CK hbl c0 c1 c2 c3 c4 c5 c6 c7 ⊢
  obtain ⟨r, hrr⟩ : ∃ r, r = widT t := ⟨_, rfl⟩
  have HW := Lib.hid hrr
  rw [← hrr] at C18 hm ⊢
  clear hrr
  obtain ⟨r1, r2⟩ := r
  simp only at C18 hm ⊢
  have hmb : (r2 == 0) = false := beq_eq_false_iff_ne.2 hm
  have HM := Lib.hid (show (widT t).2 ≠ 0 by rw [← HW.out]; exact hm)
  simp only [Nat.zero_mul, Nat.add_zero] at c0 c1 c2 c3 c4 c5 c6 c7
  have i0 : (0 : Int) < ((1 : Nat) : Int) := by decide
  go_enter Try.func29, Try.ntmps29
  rcases hk with rfl | rfl | rfl
  all_goals
    go_wp2_with (first | (go_at_call 18; refine C18.out.mono ?_; rintro e w1 ⟨rfl, hb⟩; have HB1 := Lib.hid (below_next HB0.out hb); have HX1 := Lib.hid (HX0.out.next hb); have z0 := (hb.cell (p := ⟨b1, off1, none⟩) hbl).trans c0; have z1 := (hb.cell (p := ⟨b1, off1 + 1, none⟩) hbl).trans c1; have z2 := (hb.cell (p := ⟨b1, off1 + 2, none⟩) hbl).trans c2; have z3 := (hb.cell (p := ⟨b1, off1 + 3, none⟩) hbl).trans c3; have z4 := (hb.cell (p := ⟨b1, off1 + 4, none⟩) hbl).trans c4; have z5 := (hb.cell (p := ⟨b1, off1 + 5, none⟩) hbl).trans c5; have z6 := (hb.cell (p := ⟨b1, off1 + 6, none⟩) hbl).trans c6; have z7 := (hb.cell (p := ⟨b1, off1 + 7, none⟩) hbl).trans c7; clear hb; obtain ⟨x0, x1, x2, x3, x4, x5, x6, x7, x8⟩ := HX1.out) | (go_at_call 29; refine (CK.out _ HB1.out).mono ?_; rintro en w2 ⟨A, n, c, l, rfl, q1, q2, q3, q4, hb⟩; have HB2 := Lib.hid (below_next HB1.out hb); clear hb))
    go_ret2
    exact ⟨A, n, c, l, rfl, q1, q2, q3, q4.kid HM.out HN2.out HSK.out, HB2.out⟩
set_option maxRecDepth 100000 in
set_option maxHeartbeats 4000000 in
theorem first_row (t : Tr) (ih : ∀ k ∈ t.kids, FirstLaw k) (hm : (widT t).2 ≠ 0) (hk : t.kind = 9) : FirstLaw t := by
  intro d w hn hr hsz
  have HR := Lib.hid hr
  obtain ⟨ds, hn⟩ := hn.of
  have HN := Lib.hid hn
  have HK := Lib.hid hn.knum
  have HB0 := Lib.hid (ND.box_below w d)
  have HX0 := Lib.hid (BoxN.new w d)
  have C18 := Lib.hid (width18 t d (d.box w) (hn.node.next (ND.box_below w d)) hr)
  have HIH := Lib.hid ih
  have HSZ := Lib.hid hsz
  have HRK := Lib.hid (fun (k : Tr) (hk : k ∈ t.kids) x (hx : x ∈ flatT k) => hr x (flat_kid hk hx))
  clear ih
  have hkc := hn.kc1
  have hkm := hn.kc2
  unfold maxLen at hkm
  have HSC := Lib.hid (And.intro hn.sc1 hn.sc2)
  have HKT := Lib.hid hk
  rw [← hn.kind] at hk
  clear hn hr
  obtain ⟨dk, dsA, dsn, dsc, dkA, dkn, dkc, dnum, dleast, dmost, dway, dfold⟩ := d
  unfold ND.agg at *
  unfold ND.box at *
  simp only at HB0 HX0 C18 hkc hkm HSC HK hk ⊢
  obtain ⟨r, hrr⟩ : ∃ r, r = widT t := ⟨_, rfl⟩
  have HW := Lib.hid hrr
  rw [← hrr] at C18 hm ⊢
  clear hrr
  obtain ⟨r1, r2⟩ := r
  simp only at C18 hm ⊢
  have hmb : (r2 == 0) = false := beq_eq_false_iff_ne.2 hm
  have HM := Lib.hid (show (widT t).2 ≠ 0 by rw [← HW.out]; exact hm)
  subst hk
  go_enter Try.func29, Try.ntmps29
  go_wp2_with (go_at_call 18; refine C18.out.mono ?_; rintro e w1 ⟨rfl, hb⟩; have HB1 := Lib.hid (below_next HB0.out hb); have HX1 := Lib.hid (HX0.out.next hb); clear hb; obtain ⟨x0, x1, x2, x3, x4, x5, x6, x7, x8⟩ := HX1.out)
  go_loopw [6, 40] (fun v i wr => ∃ (k m : Nat) (l : List (Int × Int)), k ≤ dkn ∧ i = .int .i64 k ∧ Hid (wr.ownsRow w1.heap.size 46 2 v m (rngs l)) ∧ Hid (FRow (sizeL (t.kids.take k)) l) ∧ Hid (Below w1.heap.size w1 wr)) (fun _ i _ => dkn - (intOf i).toNat)
  case atStart => exact ⟨0, 0, [], Nat.zero_le _, rfl, Lib.hid (World.ownsRow_nil _ _ _ _), Lib.hid (by rw [List.take_zero]; exact FRow.nil), Lib.hid (Below.refl _ _)⟩
  case round =>
    obtain ⟨k, m, l, hk, rfl, HO, HF, HB⟩ := hrel
    have hsz1 := HB1.out.size
    have HBW := Lib.hid (below_next HB1.out HB.out)
    have HLT := Lib.hid (sizeL_take t.kids k)
    have hml : m ≤ 400000 := by have h1 := own_rngs_len HO.out; have h2 := HF.out.len; have h3 := HLT.out; have h4 := HSZ.out; have h5 := sizeT_eq t; omega
    have hsz2 := HB.out.size
    obtain ⟨Ao, co, rfl, hoc, hco⟩ := own_slice HO.out
    by_cases hlt : k < dkn
    · obtain ⟨b1, off1, hl1, hA, hb1, c0, c1, c2, c3, c4, c5, c6, c7⟩ := (HN.out.kids.below HBW.out (Nat.le_refl _)).node_at hlt
      have hkl : k < t.kids.length := by rw [HK.out.1]; exact hlt
      have HKID := Lib.hid (HN.out.each.at k hkl hl1)
      have HMEM := Lib.hid (List.getElem_mem hkl)
      have HDE := Lib.hid (show sizeL (t.kids.take (k + 1)) = sizeL (t.kids.take k) + sizeT t.kids[k] by rw [← flatL_len, flatL_take t.kids k hkl, List.length_append, flatL_len, flatT_len])
      have HDS := Lib.hid (sizeL_take t.kids (k + 1))
      obtain ⟨kid, hkid⟩ : ∃ x, x = t.kids[k] := ⟨_, rfl⟩
      rw [← hkid] at HKID HMEM HDE
      clear hkid
      obtain ⟨e, he⟩ : ∃ x, x = ds[k] := ⟨_, rfl⟩
      rw [← he] at c0 c1 c2 c3 c4 c5 c6 c7 HKID
      clear he
      simp only at hA
      have HAA := Lib.hid hA
      subst hA
      have k2 : (k : Int) < (dkn : Int) := by omega
      have HBE := Lib.hid (ND.box_below wr e)
      have HBX := Lib.hid (BoxN.new wr e)
      have HBK := Lib.hid (below_next HBW.out HBE.out)
      have HC := Lib.hid (HIH.out kid HMEM.out e (e.box wr) (NodeAt.map (fun r => (r.below HBK.out (Nat.le_refl _)).more HBK.out.size) _ _ HKID.out) (HRK.out kid HMEM.out) (by have := size_kid HMEM.out; have := HSZ.out; omega))
      have HO1 := Lib.hid (own_below HO.out HBE.out (Nat.le_refl _))
      have HB2 := Lib.hid (HB.out.trans (HBE.out.mono hsz2))
      obtain ⟨b, hbb⟩ : ∃ b, b = ((widT kid).1 == 0) := ⟨_, rfl⟩
      rw [← hbb] at HC
      clear hbb
      unfold ND.agg at HC
      unfold ND.box at HC HBE HBX HO1 HB2 HBK
      obtain ⟨y0, y1, y2, y3, y4, y5, y6, y7, y8⟩ := HBX.out
      have HSX := Lib.hid (show sizeL (t.kids.take (k + 1)) ≤ sizeT t by have := HDS.out; have := sizeT_eq t; omega)
      cases b
      · go_wp2_with (first
          | (go_at_call 29; refine HC.out.mono ?_; rintro en w3 ⟨A2, n2, c2', l2, rfl, q1, q2, q3, q4, hb3⟩; have HR3 := Lib.hid q3; have HF3 := Lib.hid (show FRow (sizeL (t.kids.take (k + 1))) (l ++ l2) by rw [HDE.out]; exact HF.out.more q4); have HL3 := Lib.hid (And.intro q3.rngs_len q4.len); have HO3 := Lib.hid (own_below HO1.out hb3 (Nat.le_refl _)); have hsz3 := hb3.size; have HB3 := Lib.hid (HB2.out.trans (hb3.mono HB2.out.size)); have hml2 : m + n2 ≤ 400000 := (by have h1 := own_rngs_len HO.out; have h2 := HF3.out.len; have h3 := HL3.out.1; have h4 := HDS.out; have h5 := HSZ.out; have h6 := sizeT_eq t; rw [List.length_append] at h2; omega); clear q3 q4 hb3)
          | (at_builtin; refine app_rngs _ _ HO3.out HR3.out (by omega) (by have := HB3.out.size; omega) rfl rfl rfl rfl ?_; intro v' w4 h1 h2 _; have HB4 := Lib.hid (grown_own HB3.out HO3.out h2 (Nat.le_refl _) (by have := HB3.out.size; omega)); have HO4 := Lib.hid h1; obtain ⟨A4, c4', rfl, hc4, hc4'⟩ := own_slice h1; have HBW4 := Lib.hid (below_next HB1.out HB4.out); clear h1 h2)
          | (go_at_call 39; refine (raw72 (Lib.hid sortC) (l ++ l2) _ _ _ _ (by omega) HF3.out.ok (Rds.of_own HO4.out)).mono ?_; rintro en w5 ⟨out, ho1, ho2, A5, n5, c5, rfl, ho3, ho4⟩; have HB5 := Lib.hid (below_next HBW4.out ho4); have HO5 := Lib.hid ho3; have HI5 := Lib.hid ho1; clear ho1 ho3 ho4))
        have HFX := Lib.hid (HF3.out)
        have HOX := Lib.hid (HO4.out)
        go_ret2
        obtain ⟨A6, c6', he6, hc6, hc6'⟩ := own_slice HO5.out
        injection he6 with he6 _ hec
        exact ⟨A5, n5, c5, out, rfl, by omega, by omega, Rds.of_own HO5.out, FRow.raw HFX.out HSX.out HI5.out (by have := own_rngs_len HOX.out; omega) HM.out (by rw [HKT.out]; decide), HB5.out⟩
      · go_wp2_with (first
          | (go_at_call 29; refine HC.out.mono ?_; rintro en w3 ⟨A2, n2, c2', l2, rfl, q1, q2, q3, q4, hb3⟩; have HR3 := Lib.hid q3; have HF3 := Lib.hid (show FRow (sizeL (t.kids.take (k + 1))) (l ++ l2) by rw [HDE.out]; exact HF.out.more q4); have HL3 := Lib.hid (And.intro q3.rngs_len q4.len); have HO3 := Lib.hid (own_below HO1.out hb3 (Nat.le_refl _)); have hsz3 := hb3.size; have HB3 := Lib.hid (HB2.out.trans (hb3.mono HB2.out.size)); have hml2 : m + n2 ≤ 400000 := (by have h1 := own_rngs_len HO.out; have h2 := HF3.out.len; have h3 := HL3.out.1; have h4 := HDS.out; have h5 := HSZ.out; have h6 := sizeT_eq t; rw [List.length_append] at h2; omega); clear q3 q4 hb3)
          | (at_builtin; refine app_rngs _ _ HO3.out HR3.out (by omega) (by have := HB3.out.size; omega) rfl rfl rfl rfl ?_; intro v' w4 h1 h2 _; have HB4 := Lib.hid (grown_own HB3.out HO3.out h2 (Nat.le_refl _) (by have := HB3.out.size; omega)); have HO4 := Lib.hid h1; obtain ⟨A4, c4', rfl, hc4, hc4'⟩ := own_slice h1; have HBW4 := Lib.hid (below_next HB1.out HB4.out); clear h1 h2)
          | (go_at_call 39; refine (raw72 (Lib.hid sortC) (l ++ l2) _ _ _ _ (by omega) HF3.out.ok (Rds.of_own HO4.out)).mono ?_; rintro en w5 ⟨out, ho1, ho2, A5, n5, c5, rfl, ho3, ho4⟩; have HB5 := Lib.hid (below_next HBW4.out ho4); have HO5 := Lib.hid ho3; have HI5 := Lib.hid ho1; clear ho1 ho3 ho4))
        go_roundw
        case rel => exact ⟨k + 1, m + n2, l ++ l2, by omega, by go_num, HO4, HF3, HB4⟩
        case measure => simp [intOf]; omega
    · obtain rfl : k = dkn := by omega
      have HZ := Lib.hid (show t.kids.take k = t.kids from List.take_of_length_le (by rw [HK.out.1]; exact Nat.le_refl _))
      have HSX := Lib.hid (show sizeL (t.kids.take k) ≤ sizeT t by have := HLT.out; have := sizeT_eq t; omega)
      go_wp2_with (go_at_call 39; refine (raw72 (Lib.hid sortC) l _ _ _ _ (by omega) HF.out.ok (Rds.of_own HO.out)).mono ?_; rintro en w5 ⟨out, ho1, ho2, A5, n5, c5, rfl, ho3, ho4⟩; have HB5 := Lib.hid (below_next HBW.out ho4); have HO5 := Lib.hid ho3; have HI5 := Lib.hid ho1; clear ho1 ho3 ho4)
      have HFX := Lib.hid (HF.out)
      have HOX := Lib.hid (HO.out)
      go_ret2
      obtain ⟨A6, c6', he6, hc6, hc6'⟩ := own_slice HO5.out
      injection he6 with he6 _ hec
      exact ⟨A5, n5, c5, out, rfl, by omega, by omega, Rds.of_own HO5.out, FRow.raw HFX.out HSX.out HI5.out (by have := own_rngs_len HOX.out; omega) HM.out (by rw [HKT.out]; decide), HB5.out⟩
set_option maxRecDepth 100000 in
set_option maxHeartbeats 4000000 in
theorem first_either (t : Tr) (ih : ∀ k ∈ t.kids, FirstLaw k) (hm : (widT t).2 ≠ 0) (hk : t.kind = 10) : FirstLaw t := by
  intro d w hn hr hsz
  have HR := Lib.hid hr
  obtain ⟨ds, hn⟩ := hn.of
  have HN := Lib.hid hn
  have HK := Lib.hid hn.knum
  have HB0 := Lib.hid (ND.box_below w d)
  have HX0 := Lib.hid (BoxN.new w d)
  have C18 := Lib.hid (width18 t d (d.box w) (hn.node.next (ND.box_below w d)) hr)
  have HIH := Lib.hid ih
  have HSZ := Lib.hid hsz
  have HRK := Lib.hid (fun (k : Tr) (hk : k ∈ t.kids) x (hx : x ∈ flatT k) => hr x (flat_kid hk hx))
  clear ih
  have hkc := hn.kc1
  have hkm := hn.kc2
  unfold maxLen at hkm
  have HSC := Lib.hid (And.intro hn.sc1 hn.sc2)
  have HKT := Lib.hid hk
  rw [← hn.kind] at hk
  clear hn hr
  obtain ⟨dk, dsA, dsn, dsc, dkA, dkn, dkc, dnum, dleast, dmost, dway, dfold⟩ := d
  unfold ND.agg at *
  unfold ND.box at *
  simp only at HB0 HX0 C18 hkc hkm HSC HK hk ⊢
  obtain ⟨r, hrr⟩ : ∃ r, r = widT t := ⟨_, rfl⟩
  have HW := Lib.hid hrr
  rw [← hrr] at C18 hm ⊢
  clear hrr
  obtain ⟨r1, r2⟩ := r
  simp only at C18 hm ⊢
  have hmb : (r2 == 0) = false := beq_eq_false_iff_ne.2 hm
  have HM := Lib.hid (show (widT t).2 ≠ 0 by rw [← HW.out]; exact hm)
  subst hk
  go_enter Try.func29, Try.ntmps29
  go_wp2_with (go_at_call 18; refine C18.out.mono ?_; rintro e w1 ⟨rfl, hb⟩; have HB1 := Lib.hid (below_next HB0.out hb); have HX1 := Lib.hid (HX0.out.next hb); clear hb; obtain ⟨x0, x1, x2, x3, x4, x5, x6, x7, x8⟩ := HX1.out)
  go_loopw [11, 64] (fun v i wr => ∃ (k m : Nat) (l : List (Int × Int)), k ≤ dkn ∧ i = .int .i64 k ∧ Hid (wr.ownsRow w1.heap.size 46 2 v m (rngs l)) ∧ Hid (FRow (sizeL (t.kids.take k)) l) ∧ Hid (Below w1.heap.size w1 wr)) (fun _ i _ => dkn - (intOf i).toNat)
  case atStart => exact ⟨0, 0, [], Nat.zero_le _, rfl, Lib.hid (World.ownsRow_nil _ _ _ _), Lib.hid (by rw [List.take_zero]; exact FRow.nil), Lib.hid (Below.refl _ _)⟩
  case round =>
    obtain ⟨k, m, l, hk, rfl, HO, HF, HB⟩ := hrel
    have hsz1 := HB1.out.size
    have HBW := Lib.hid (below_next HB1.out HB.out)
    have HLT := Lib.hid (sizeL_take t.kids k)
    have hml : m ≤ 400000 := by have h1 := own_rngs_len HO.out; have h2 := HF.out.len; have h3 := HLT.out; have h4 := HSZ.out; have h5 := sizeT_eq t; omega
    have hsz2 := HB.out.size
    obtain ⟨Ao, co, rfl, hoc, hco⟩ := own_slice HO.out
    by_cases hlt : k < dkn
    · obtain ⟨b1, off1, hl1, hA, hb1, c0, c1, c2, c3, c4, c5, c6, c7⟩ := (HN.out.kids.below HBW.out (Nat.le_refl _)).node_at hlt
      have hkl : k < t.kids.length := by rw [HK.out.1]; exact hlt
      have HKID := Lib.hid (HN.out.each.at k hkl hl1)
      have HMEM := Lib.hid (List.getElem_mem hkl)
      have HDE := Lib.hid (show sizeL (t.kids.take (k + 1)) = sizeL (t.kids.take k) + sizeT t.kids[k] by rw [← flatL_len, flatL_take t.kids k hkl, List.length_append, flatL_len, flatT_len])
      have HDS := Lib.hid (sizeL_take t.kids (k + 1))
      obtain ⟨kid, hkid⟩ : ∃ x, x = t.kids[k] := ⟨_, rfl⟩
      rw [← hkid] at HKID HMEM HDE
      clear hkid
      obtain ⟨e, he⟩ : ∃ x, x = ds[k] := ⟨_, rfl⟩
      rw [← he] at c0 c1 c2 c3 c4 c5 c6 c7 HKID
      clear he
      simp only at hA
      have HAA := Lib.hid hA
      subst hA
      have k2 : (k : Int) < (dkn : Int) := by omega
      have HBE := Lib.hid (ND.box_below wr e)
      have HBX := Lib.hid (BoxN.new wr e)
      have HBK := Lib.hid (below_next HBW.out HBE.out)
      have HC := Lib.hid (HIH.out kid HMEM.out e (e.box wr) (NodeAt.map (fun r => (r.below HBK.out (Nat.le_refl _)).more HBK.out.size) _ _ HKID.out) (HRK.out kid HMEM.out) (by have := size_kid HMEM.out; have := HSZ.out; omega))
      have HO1 := Lib.hid (own_below HO.out HBE.out (Nat.le_refl _))
      have HB2 := Lib.hid (HB.out.trans (HBE.out.mono hsz2))
      obtain ⟨b, hbb⟩ : ∃ b, b = ((widT kid).1 == 0) := ⟨_, rfl⟩
      rw [← hbb] at HC
      clear hbb
      unfold ND.agg at HC
      unfold ND.box at HC HBE HBX HO1 HB2 HBK
      obtain ⟨y0, y1, y2, y3, y4, y5, y6, y7, y8⟩ := HBX.out
      go_wp2_with (first
        | (go_at_call 29; refine HC.out.mono ?_; rintro en w3 ⟨A2, n2, c2', l2, rfl, q1, q2, q3, q4, hb3⟩; have HR3 := Lib.hid q3; have HF3 := Lib.hid (show FRow (sizeL (t.kids.take (k + 1))) (l ++ l2) by rw [HDE.out]; exact HF.out.more q4); have HL3 := Lib.hid (And.intro q3.rngs_len q4.len); have HO3 := Lib.hid (own_below HO1.out hb3 (Nat.le_refl _)); have hsz3 := hb3.size; have HB3 := Lib.hid (HB2.out.trans (hb3.mono HB2.out.size)); have hml2 : m + n2 ≤ 400000 := (by have h1 := own_rngs_len HO.out; have h2 := HF3.out.len; have h3 := HL3.out.1; have h4 := HDS.out; have h5 := HSZ.out; have h6 := sizeT_eq t; rw [List.length_append] at h2; omega); clear q3 q4 hb3)
        | (at_builtin; refine app_rngs _ _ HO3.out HR3.out (by omega) (by have := HB3.out.size; omega) rfl rfl rfl rfl ?_; intro v' w4 h1 h2 _; have HB4 := Lib.hid (grown_own HB3.out HO3.out h2 (Nat.le_refl _) (by have := HB3.out.size; omega)); have HO4 := Lib.hid h1; obtain ⟨A4, c4', rfl, hc4, hc4'⟩ := own_slice h1; have HBW4 := Lib.hid (below_next HB1.out HB4.out); clear h1 h2)
        | (go_at_call 39; refine (raw72 (Lib.hid sortC) (l ++ l2) _ _ _ _ (by omega) HF3.out.ok (Rds.of_own HO4.out)).mono ?_; rintro en w5 ⟨out, ho1, ho2, A5, n5, c5, rfl, ho3, ho4⟩; have HB5 := Lib.hid (below_next HBW4.out ho4); have HO5 := Lib.hid ho3; have HI5 := Lib.hid ho1; clear ho1 ho3 ho4))
      go_roundw
      case rel => exact ⟨k + 1, m + n2, l ++ l2, by omega, by go_num, HO4, HF3, HB4⟩
      case measure => simp [intOf]; omega
    · obtain rfl : k = dkn := by omega
      have HZ := Lib.hid (show t.kids.take k = t.kids from List.take_of_length_le (by rw [HK.out.1]; exact Nat.le_refl _))
      have HSX := Lib.hid (show sizeL (t.kids.take k) ≤ sizeT t by have := HLT.out; have := sizeT_eq t; omega)
      go_wp2_with (go_at_call 39; refine (raw72 (Lib.hid sortC) l _ _ _ _ (by omega) HF.out.ok (Rds.of_own HO.out)).mono ?_; rintro en w5 ⟨out, ho1, ho2, A5, n5, c5, rfl, ho3, ho4⟩; have HB5 := Lib.hid (below_next HBW.out ho4); have HO5 := Lib.hid ho3; have HI5 := Lib.hid ho1; clear ho1 ho3 ho4)
      have HFX := Lib.hid (HF.out)
      have HOX := Lib.hid (HO.out)
      go_ret2
      obtain ⟨A6, c6', he6, hc6, hc6'⟩ := own_slice HO5.out
      injection he6 with he6 _ hec
      exact ⟨A5, n5, c5, out, rfl, by omega, by omega, Rds.of_own HO5.out, FRow.raw HFX.out HSX.out HI5.out (by have := own_rngs_len HOX.out; omega) HM.out (by rw [HKT.out]; decide), HB5.out⟩
theorem first29 (t : Tr) : FirstLaw t := by
  refine tree_ind (P := FirstLaw) (fun t ih => ?_) t
  by_cases hm : (widT t).2 = 0
  · exact first_none t hm
  by_cases h2 : t.kind = 2
  · exact first_set t hm h2
  by_cases h18 : t.kind = 18
  · exact first_again t hm h18
  by_cases h9 : t.kind = 9
  · exact first_row t ih hm h9
  by_cases h10 : t.kind = 10
  · exact first_either t ih hm h10
  by_cases hk : t.kind = 11 ∨ t.kind = 12 ∨ t.kind = 13
  · exact first_kid t ih hm hk
  exact absurd (by rw [widT_eq]; unfold widK; rw [if_neg h2, if_neg h18, if_neg (by omega), if_neg (by omega), if_neg h9, if_neg h10]) hm
end Go.Proofs.Ytbekjfoefjnidaa

