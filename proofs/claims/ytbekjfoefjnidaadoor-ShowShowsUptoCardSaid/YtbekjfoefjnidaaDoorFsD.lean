/- the checker's node, where the node itself is right: walked. -/
import Derived.Test.YtbekjfoefjnidaaDoorFsC
namespace Go.Proofs.YtbekjfoefjnidaaDoor
open Go.RowKit
set_option linter.unusedVariables false

set_option maxRecDepth 100000 in
set_option maxHeartbeats 4000000 in
theorem node_set_bad (t : Tr) (ih : ∀ k ∈ t.kids, NodeLaw k) (hk : ¬ (t.kind < 1 ∨ 18 < t.kind)) (hb : kidsBad t = false) (hf : fieldsBad t = false) (h2k : t.kind = 2) (hc : chk t.set ≠ 0) : NodeLaw t := by
  intro g l d w cb B hn hck g0 g2 l2
  obtain ⟨ds, hn⟩ := hn.of
  have hnw : NodeAt w w.heap.size t d := NodeAt.map (fun h => h.more (by have := hck.hi; have := hck.lo; omega)) _ _ hn.node
  have HN := Lib.hid hn
  have HNW := Lib.hid hnw
  have HK := Lib.hid hn.knum
  have IH := Lib.hid ih
  have HBB := Lib.hid ((ND.box_below w d).mono (show B ≤ w.heap.size by have := hck.hi; have := hck.lo; omega))
  have HX0 := Lib.hid (BoxN.new w d)
  have HCK := Lib.hid hck
  have HCK0 := Lib.hid (hck.next (ND.box_below w d))
  have hlo := hck.lo
  have hhi := hck.hi
  have HBD := Lib.hid (ND.box_below w d)
  have HNX := Lib.hid (hnw.next (ND.box_below w d))
  have hkc := hn.kc1
  have hkm := hn.kc2
  have hsc := hn.sc1
  have hsm := hn.sc2
  unfold maxLen at hkm hsm
  have HSZ := Lib.hid (sizeT_eq t)
  have EK := Lib.hid hn.kind
  have EN := Lib.hid hn.num
  have EL := Lib.hid hn.least
  have EM := Lib.hid hn.most
  have EW := Lib.hid hn.way
  have C46 := Lib.hid (kids46 d.kind (d.kn : Nat) (d.box w))
  have KB := Lib.hid (show kidsOk d.kind (d.kn : Nat) = !kidsBad t by rw [kidsBad_ok, Bool.not_not, hn.kind, hn.knum.1])
  have C47 := Lib.hid (fields47 t d (d.box w) (some ⟨cb, 0, none⟩) (hnw.next (ND.box_below w d)))
  clear hn hck ih hnw
  obtain ⟨dk, dsA, dsn, dsc, dkA, dkn, dkc, dnum, dleast, dmost, dway, dfold⟩ := d
  unfold ND.agg at *
  unfold ND.box at *
  simp only at hkc hkm hsc hsm HK EK EN EL EM EW C46 C47 HBB HX0 HCK0 HBD KB HNX
  have HR := Lib.hid (show rightE t = chk t.set by unfold rightE; rw [if_neg hk, if_neg (by rw [hb, hf]; simp), if_pos h2k])
  rw [← EK.out] at hk
  rw [KB.out, hb] at C46
  rw [hf] at C47
  clear KB
  have h1 : ¬ dk < 1 := by omega
  have h2 : ¬ 18 < dk := by omega
  have HC2 := Lib.hid hc
  obtain rfl : dk = 2 := by have := EK.out; omega
  clear hb hf h2k
  obtain ⟨cs, hcs⟩ : ∃ x, x = chk t.set := ⟨_, rfl⟩
  rw [← hcs] at HR HC2 hc
  have HC := Lib.hid hcs.symm
  clear hcs
  go_enter Tryd.func15, Tryd.ntmps15
  go_wp2_with (first | (go_at_call 26; refine C46.out.mono ?_; rintro e w' ⟨rfl, rfl⟩) | (go_at_call 27; refine C47.out.mono ?_; rintro e w1 ⟨rfl, hb1⟩; have CK1 := HCK0.out.next hb1; have HBB2 := Lib.hid (HBB.out.trans (hb1.mono (show B ≤ _ by have := HBB.out.size; omega))); have HBX := Lib.hid (HX0.out.next hb1); have HB1 := Lib.hid hb1; obtain ⟨x0, x1, x2, x3, x4, x5, x6, x7, x8⟩ := HX0.out.next hb1; clear hb1) | (go_at_call 28; refine (check48 t.set _ _ _ _ hsc (by unfold maxLen; exact hsm) ((HN.out.set.below HBB2.out (Nat.le_refl _)).more (by have := HBB2.out.size; omega))).mono ?_; rintro e w2 ⟨he, hb2⟩; rw [HC.out] at he; subst he; have CK2 := CK1.next hb2; have HBB3 := Lib.hid (HBB2.out.trans (hb2.mono (show B ≤ _ by have := HBB2.out.size; omega))); obtain ⟨y0, y1, y2, y3, y4, y5, y6, y7, y8⟩ := HBX.out.next hb2; clear hb2))
  go_ret
  exact said_bad HR.out HC2.out HBB3.out

set_option maxRecDepth 100000 in
set_option maxHeartbeats 4000000 in
theorem node_set (t : Tr) (ih : ∀ k ∈ t.kids, NodeLaw k) (hk : ¬ (t.kind < 1 ∨ 18 < t.kind)) (hb : kidsBad t = false) (hf : fieldsBad t = false) (h2k : t.kind = 2) (hc : chk t.set = 0) : NodeLaw t := by
  intro g l d w cb B hn hck g0 g2 l2
  obtain ⟨ds, hn⟩ := hn.of
  have hnw : NodeAt w w.heap.size t d := NodeAt.map (fun h => h.more (by have := hck.hi; have := hck.lo; omega)) _ _ hn.node
  have HN := Lib.hid hn
  have HNW := Lib.hid hnw
  have HK := Lib.hid hn.knum
  have IH := Lib.hid ih
  have HBB := Lib.hid ((ND.box_below w d).mono (show B ≤ w.heap.size by have := hck.hi; have := hck.lo; omega))
  have HX0 := Lib.hid (BoxN.new w d)
  have HCK := Lib.hid hck
  have HCK0 := Lib.hid (hck.next (ND.box_below w d))
  have hlo := hck.lo
  have hhi := hck.hi
  have HBD := Lib.hid (ND.box_below w d)
  have HNX := Lib.hid (hnw.next (ND.box_below w d))
  have hkc := hn.kc1
  have hkm := hn.kc2
  have hsc := hn.sc1
  have hsm := hn.sc2
  unfold maxLen at hkm hsm
  have HSZ := Lib.hid (sizeT_eq t)
  have EK := Lib.hid hn.kind
  have EN := Lib.hid hn.num
  have EL := Lib.hid hn.least
  have EM := Lib.hid hn.most
  have EW := Lib.hid hn.way
  have C46 := Lib.hid (kids46 d.kind (d.kn : Nat) (d.box w))
  have KB := Lib.hid (show kidsOk d.kind (d.kn : Nat) = !kidsBad t by rw [kidsBad_ok, Bool.not_not, hn.kind, hn.knum.1])
  have C47 := Lib.hid (fields47 t d (d.box w) (some ⟨cb, 0, none⟩) (hnw.next (ND.box_below w d)))
  clear hn hck ih hnw
  obtain ⟨dk, dsA, dsn, dsc, dkA, dkn, dkc, dnum, dleast, dmost, dway, dfold⟩ := d
  unfold ND.agg at *
  unfold ND.box at *
  simp only at hkc hkm hsc hsm HK EK EN EL EM EW C46 C47 HBB HX0 HCK0 HBD KB HNX
  have HR := Lib.hid (show rightE t = 0 by unfold rightE; rw [if_neg hk, if_neg (by rw [hb, hf]; simp), if_pos h2k, hc])
  obtain ⟨g1, hg1⟩ : ∃ x, x = g := ⟨_, rfl⟩
  obtain ⟨l1, hl1⟩ : ∃ x, x = l := ⟨_, rfl⟩
  have HE := Lib.hid (show nodeE t g = nodesE t.kids g1 by rw [hg1]; exact node_go (show stepE t g = (0, g) by unfold stepE; rw [HR.out, if_neg (by simp), if_neg (by omega)]))
  have HL1 := Lib.hid (show l1 ++ agL (flatL (t.kids.drop 0)) = l ++ agL (flatT t) by rw [ag_go, agL_one, if_neg (by omega), List.append_nil, hl1]; rfl)
  have HG := Lib.hid (And.intro hg1 hl1)
  have hg10 : 0 ≤ g1 := by omega
  have hg11 : g1 + (sizeL (t.kids.drop 0) : Nat) ≤ 100000 := by have := HSZ.out; show g1 + (sizeL t.kids : Nat) ≤ 100000; omega
  have hl11 : l1.length + sizeL (t.kids.drop 0) ≤ 100000 := by have := HSZ.out; show l1.length + sizeL t.kids ≤ 100000; rw [hl1]; omega
  clear hg1 hl1
  rw [← EK.out] at hk
  rw [KB.out, hb] at C46
  rw [hf] at C47
  clear KB
  have h1 : ¬ dk < 1 := by omega
  have h2 : ¬ 18 < dk := by omega
  have HC := Lib.hid hc
  obtain rfl : dk = 2 := by have := EK.out; omega
  clear hb hf h2k hc
  go_enter Tryd.func15, Tryd.ntmps15
  go_wp2_with (first | (go_at_call 26; refine C46.out.mono ?_; rintro e w' ⟨rfl, rfl⟩) | (go_at_call 27; refine C47.out.mono ?_; rintro e w1 ⟨rfl, hb1⟩; have CK1 := HCK0.out.next hb1; have HBB2 := Lib.hid (HBB.out.trans (hb1.mono (show B ≤ _ by have := HBB.out.size; omega))); have HBX := Lib.hid (HX0.out.next hb1); have HB1 := Lib.hid hb1; obtain ⟨x0, x1, x2, x3, x4, x5, x6, x7, x8⟩ := HX0.out.next hb1; clear hb1) | (go_at_call 28; refine (check48 t.set _ _ _ _ hsc (by unfold maxLen; exact hsm) ((HN.out.set.below HBB2.out (Nat.le_refl _)).more (by have := HBB2.out.size; omega))).mono ?_; rintro e w2 ⟨he, hb2⟩; rw [HC.out] at he; subst he; have CK2 := CK1.next hb2; have HBB3 := Lib.hid (HBB2.out.trans (hb2.mono (show B ≤ _ by have := HBB2.out.size; omega))); obtain ⟨y0, y1, y2, y3, y4, y5, y6, y7, y8⟩ := HBX.out.next hb2; clear hb2))
  have HCK1 := Lib.hid (show CkAt w2 B cb g1 l1 by rw [HG.out.1, HG.out.2]; exact CK2)
  have HBB1 := HBB3
  clear CK1 CK2
  go_loopw [112] (fun i wr => ∃ (k : Nat) (gk : Int) (lk : List Int), k ≤ dkn ∧ i = .int .i64 k ∧ Hid (nodesE (t.kids.drop k) gk = nodesE t.kids g1) ∧ Hid (CkAt wr B cb gk lk) ∧ Hid (lk ++ agL (flatL (t.kids.drop k)) = l ++ agL (flatT t)) ∧ Hid (Below B w wr) ∧
      0 ≤ gk ∧ gk + (sizeL (t.kids.drop k) : Nat) ≤ 100000 ∧ lk.length + sizeL (t.kids.drop k) ≤ 100000 ∧ B ≤ wr.heap.size) (fun i _ => dkn - (intOf i).toNat)
  case atStart => exact ⟨0, g1, l1, Nat.zero_le _, rfl, Lib.hid rfl, HCK1, HL1, HBB1, hg10, hg11, hl11, by have := HBB1.out.size; omega⟩
  case round =>
    obtain ⟨k, gk, lk, hk, rfl, HM, HCK, HLL, HB, hg0, hgs, hls, hBs⟩ := hrel
    by_cases hlt : k < dkn
    · obtain ⟨b1, off1, hl1, hA, hb1, c0, c1, c2, c3, c4, c5, c6, c7⟩ := (HN.out.kids.below HB.out (Nat.le_refl _)).node_at hlt
      have hkl : k < t.kids.length := by rw [HK.out.1]; exact hlt
      have HKID := Lib.hid (NodeAt.map (fun h => h.below HB.out (Nat.le_refl _)) _ _ (HN.out.each.at k hkl hl1))
      have HD := Lib.hid (nodesE_drop t.kids k hkl gk)
      have HDL := Lib.hid (agL_drop t.kids k hkl lk)
      have HDS := Lib.hid (sizeL_drop t.kids k hkl)
      have HIH := Lib.hid (IH.out _ (List.getElem_mem hkl))
      obtain ⟨kid, hkid⟩ : ∃ x, x = t.kids[k] := ⟨_, rfl⟩
      rw [← hkid] at HKID HD HDL HDS HIH
      clear hkid
      obtain ⟨e, he⟩ : ∃ x, x = ds[k] := ⟨_, rfl⟩
      rw [← he] at c0 c1 c2 c3 c4 c5 c6 c7 HKID
      clear he
      simp only at hA
      have HAA := Lib.hid hA
      subst hA
      have k2 : (k : Int) < (dkn : Int) := by omega
      have HNL := Lib.hid (nodeE_le kid gk)
      have HFL := Lib.hid (agL_len (flatT kid))
      have hds := HDS.out
      have HBX := Lib.hid (ND.box_below wr e)
      have HC := Lib.hid (HIH.out gk lk e (e.box wr) cb B (NodeAt.map (fun h => h.below (ND.box_below wr e) hBs) _ _ HKID.out) (HCK.out.next (ND.box_below wr e)) hg0 (by omega) (by omega))
      unfold ND.box at HBX HC
      unfold ND.agg NodeSaid at HC
      obtain ⟨ee, hee⟩ : ∃ x, x = nodeE kid gk := ⟨_, rfl⟩
      rw [← hee] at HC HNL HD
      clear hee hds
      obtain ⟨er, ge⟩ := ee
      simp only at HC HNL HD
      go_wp2_with fail
      refine HC.out.mono ?_
      rintro en w2 ⟨rfl, hb2, hcc⟩
      have HB2 := Lib.hid (HB.out.trans ((HBX.out.mono hBs).trans hb2))
      have HCC := Lib.hid hcc
      clear hb2 hcc
      by_cases her : er = 0
      · subst her
        have HCK2 := HCC.out.out rfl
        have HR := Lib.hid (show nodesE (t.kids.drop k) gk = nodesE (t.kids.drop (k + 1)) ge by rw [HD.out, if_neg (by simp)])
        go_wp2
        go_roundw
        case rel => exact ⟨k + 1, ge, lk ++ agL (flatT kid), by omega, by go_num, Lib.hid (HR.out.symm.trans HM.out), Lib.hid HCK2, Lib.hid (HDL.out.symm.trans HLL.out), HB2, by have := HNL.out; omega, by have := HNL.out; have := HDS.out; omega, by have := HDS.out; have := HFL.out; rw [flatT_len] at this; rw [List.length_append]; omega, by have := HB2.out.size; omega⟩
        case measure => simp [intOf]; omega
      · have HR := Lib.hid (show nodeE t g = (er, ge) by rw [HE.out, ← HM.out, HD.out, if_pos her])
        go_wp2
        go_ret
        unfold NodeSaid
        rw [HR.out]
        exact ⟨rfl, HB2.out, Lib.hid fun h => absurd h her⟩
    · obtain rfl : k = dkn := by omega
      have HZ := Lib.hid (show t.kids.drop k = [] from List.drop_of_length_le (by rw [HK.out.1]; exact Nat.le_refl _))
      have HR := Lib.hid (show nodeE t g = (0, gk) by rw [HE.out, ← HM.out, HZ.out]; rfl)
      have HLR := Lib.hid (show lk = l ++ agL (flatT t) by rw [← HLL.out, HZ.out]; simp [flatL, agL])
      go_wp2
      go_ret
      unfold NodeSaid
      rw [HR.out, ← HLR.out]
      exact ⟨rfl, HB.out, Lib.hid fun _ => HCK.out⟩

set_option maxRecDepth 100000 in
set_option maxHeartbeats 4000000 in
theorem node_else (t : Tr) (ih : ∀ k ∈ t.kids, NodeLaw k) (hk : ¬ (t.kind < 1 ∨ 18 < t.kind)) (hb : kidsBad t = false) (hf : fieldsBad t = false) (n2 : t.kind ≠ 2) (n11 : t.kind ≠ 11) (n12 : t.kind ≠ 12) (n18 : t.kind ≠ 18) : NodeLaw t := by
  intro g l d w cb B hn hck g0 g2 l2
  obtain ⟨ds, hn⟩ := hn.of
  have hnw : NodeAt w w.heap.size t d := NodeAt.map (fun h => h.more (by have := hck.hi; have := hck.lo; omega)) _ _ hn.node
  have HN := Lib.hid hn
  have HNW := Lib.hid hnw
  have HK := Lib.hid hn.knum
  have IH := Lib.hid ih
  have HBB := Lib.hid ((ND.box_below w d).mono (show B ≤ w.heap.size by have := hck.hi; have := hck.lo; omega))
  have HX0 := Lib.hid (BoxN.new w d)
  have HCK := Lib.hid hck
  have HCK0 := Lib.hid (hck.next (ND.box_below w d))
  have hlo := hck.lo
  have hhi := hck.hi
  have HBD := Lib.hid (ND.box_below w d)
  have HNX := Lib.hid (hnw.next (ND.box_below w d))
  have hkc := hn.kc1
  have hkm := hn.kc2
  have hsc := hn.sc1
  have hsm := hn.sc2
  unfold maxLen at hkm hsm
  have HSZ := Lib.hid (sizeT_eq t)
  have EK := Lib.hid hn.kind
  have EN := Lib.hid hn.num
  have EL := Lib.hid hn.least
  have EM := Lib.hid hn.most
  have EW := Lib.hid hn.way
  have C46 := Lib.hid (kids46 d.kind (d.kn : Nat) (d.box w))
  have KB := Lib.hid (show kidsOk d.kind (d.kn : Nat) = !kidsBad t by rw [kidsBad_ok, Bool.not_not, hn.kind, hn.knum.1])
  have C47 := Lib.hid (fields47 t d (d.box w) (some ⟨cb, 0, none⟩) (hnw.next (ND.box_below w d)))
  clear hn hck ih hnw
  obtain ⟨dk, dsA, dsn, dsc, dkA, dkn, dkc, dnum, dleast, dmost, dway, dfold⟩ := d
  unfold ND.agg at *
  unfold ND.box at *
  simp only at hkc hkm hsc hsm HK EK EN EL EM EW C46 C47 HBB HX0 HCK0 HBD KB HNX
  have HR := Lib.hid (show rightE t = 0 by unfold rightE; rw [if_neg hk, if_neg (by rw [hb, hf]; simp), if_neg n2, if_neg n12])
  obtain ⟨g1, hg1⟩ : ∃ x, x = g := ⟨_, rfl⟩
  obtain ⟨l1, hl1⟩ : ∃ x, x = l := ⟨_, rfl⟩
  have HE := Lib.hid (show nodeE t g = nodesE t.kids g1 by rw [hg1]; exact node_go (show stepE t g = (0, g) by unfold stepE; rw [HR.out, if_neg (by simp), if_neg (by omega)]))
  have HL1 := Lib.hid (show l1 ++ agL (flatL (t.kids.drop 0)) = l ++ agL (flatT t) by rw [ag_go, agL_one, if_neg (by omega), List.append_nil, hl1]; rfl)
  have HG := Lib.hid (And.intro hg1 hl1)
  have hg10 : 0 ≤ g1 := by omega
  have hg11 : g1 + (sizeL (t.kids.drop 0) : Nat) ≤ 100000 := by have := HSZ.out; show g1 + (sizeL t.kids : Nat) ≤ 100000; omega
  have hl11 : l1.length + sizeL (t.kids.drop 0) ≤ 100000 := by have := HSZ.out; show l1.length + sizeL t.kids ≤ 100000; rw [hl1]; omega
  clear hg1 hl1
  rw [← EK.out] at hk
  rw [KB.out, hb] at C46
  rw [hf] at C47
  clear KB
  have h1 : ¬ dk < 1 := by omega
  have h2 : ¬ 18 < dk := by omega
  rw [← EK.out] at n2 n11 n12 n18
  have e2 : (dk == 2) = false := beq_eq_false_iff_ne.2 n2
  have e11 : (dk == 11) = false := beq_eq_false_iff_ne.2 n11
  have e12 : (dk == 12) = false := beq_eq_false_iff_ne.2 n12
  have e18 : (dk == 18) = false := beq_eq_false_iff_ne.2 n18
  clear hb hf
  go_enter Tryd.func15, Tryd.ntmps15
  go_wp2_with (first | (go_at_call 26; refine C46.out.mono ?_; rintro e w' ⟨rfl, rfl⟩) | (go_at_call 27; refine C47.out.mono ?_; rintro e w1 ⟨rfl, hb1⟩; have CK1 := HCK0.out.next hb1; have HBB2 := Lib.hid (HBB.out.trans (hb1.mono (show B ≤ _ by have := HBB.out.size; omega))); have HBX := Lib.hid (HX0.out.next hb1); have HB1 := Lib.hid hb1; obtain ⟨x0, x1, x2, x3, x4, x5, x6, x7, x8⟩ := HX0.out.next hb1; clear hb1))
  have HCK1 := Lib.hid (show CkAt w1 B cb g1 l1 by rw [HG.out.1, HG.out.2]; exact CK1)
  have HBB1 := HBB2
  clear CK1
  go_loopw [112] (fun i wr => ∃ (k : Nat) (gk : Int) (lk : List Int), k ≤ dkn ∧ i = .int .i64 k ∧ Hid (nodesE (t.kids.drop k) gk = nodesE t.kids g1) ∧ Hid (CkAt wr B cb gk lk) ∧ Hid (lk ++ agL (flatL (t.kids.drop k)) = l ++ agL (flatT t)) ∧ Hid (Below B w wr) ∧
      0 ≤ gk ∧ gk + (sizeL (t.kids.drop k) : Nat) ≤ 100000 ∧ lk.length + sizeL (t.kids.drop k) ≤ 100000 ∧ B ≤ wr.heap.size) (fun i _ => dkn - (intOf i).toNat)
  case atStart => exact ⟨0, g1, l1, Nat.zero_le _, rfl, Lib.hid rfl, HCK1, HL1, HBB1, hg10, hg11, hl11, by have := HBB1.out.size; omega⟩
  case round =>
    obtain ⟨k, gk, lk, hk, rfl, HM, HCK, HLL, HB, hg0, hgs, hls, hBs⟩ := hrel
    by_cases hlt : k < dkn
    · obtain ⟨b1, off1, hl1, hA, hb1, c0, c1, c2, c3, c4, c5, c6, c7⟩ := (HN.out.kids.below HB.out (Nat.le_refl _)).node_at hlt
      have hkl : k < t.kids.length := by rw [HK.out.1]; exact hlt
      have HKID := Lib.hid (NodeAt.map (fun h => h.below HB.out (Nat.le_refl _)) _ _ (HN.out.each.at k hkl hl1))
      have HD := Lib.hid (nodesE_drop t.kids k hkl gk)
      have HDL := Lib.hid (agL_drop t.kids k hkl lk)
      have HDS := Lib.hid (sizeL_drop t.kids k hkl)
      have HIH := Lib.hid (IH.out _ (List.getElem_mem hkl))
      obtain ⟨kid, hkid⟩ : ∃ x, x = t.kids[k] := ⟨_, rfl⟩
      rw [← hkid] at HKID HD HDL HDS HIH
      clear hkid
      obtain ⟨e, he⟩ : ∃ x, x = ds[k] := ⟨_, rfl⟩
      rw [← he] at c0 c1 c2 c3 c4 c5 c6 c7 HKID
      clear he
      simp only at hA
      have HAA := Lib.hid hA
      subst hA
      have k2 : (k : Int) < (dkn : Int) := by omega
      have HNL := Lib.hid (nodeE_le kid gk)
      have HFL := Lib.hid (agL_len (flatT kid))
      have hds := HDS.out
      have HBX := Lib.hid (ND.box_below wr e)
      have HC := Lib.hid (HIH.out gk lk e (e.box wr) cb B (NodeAt.map (fun h => h.below (ND.box_below wr e) hBs) _ _ HKID.out) (HCK.out.next (ND.box_below wr e)) hg0 (by omega) (by omega))
      unfold ND.box at HBX HC
      unfold ND.agg NodeSaid at HC
      obtain ⟨ee, hee⟩ : ∃ x, x = nodeE kid gk := ⟨_, rfl⟩
      rw [← hee] at HC HNL HD
      clear hee hds
      obtain ⟨er, ge⟩ := ee
      simp only at HC HNL HD
      go_wp2_with fail
      refine HC.out.mono ?_
      rintro en w2 ⟨rfl, hb2, hcc⟩
      have HB2 := Lib.hid (HB.out.trans ((HBX.out.mono hBs).trans hb2))
      have HCC := Lib.hid hcc
      clear hb2 hcc
      by_cases her : er = 0
      · subst her
        have HCK2 := HCC.out.out rfl
        have HR := Lib.hid (show nodesE (t.kids.drop k) gk = nodesE (t.kids.drop (k + 1)) ge by rw [HD.out, if_neg (by simp)])
        go_wp2
        go_roundw
        case rel => exact ⟨k + 1, ge, lk ++ agL (flatT kid), by omega, by go_num, Lib.hid (HR.out.symm.trans HM.out), Lib.hid HCK2, Lib.hid (HDL.out.symm.trans HLL.out), HB2, by have := HNL.out; omega, by have := HNL.out; have := HDS.out; omega, by have := HDS.out; have := HFL.out; rw [flatT_len] at this; rw [List.length_append]; omega, by have := HB2.out.size; omega⟩
        case measure => simp [intOf]; omega
      · have HR := Lib.hid (show nodeE t g = (er, ge) by rw [HE.out, ← HM.out, HD.out, if_pos her])
        go_wp2
        go_ret
        unfold NodeSaid
        rw [HR.out]
        exact ⟨rfl, HB2.out, Lib.hid fun h => absurd h her⟩
    · obtain rfl : k = dkn := by omega
      have HZ := Lib.hid (show t.kids.drop k = [] from List.drop_of_length_le (by rw [HK.out.1]; exact Nat.le_refl _))
      have HR := Lib.hid (show nodeE t g = (0, gk) by rw [HE.out, ← HM.out, HZ.out]; rfl)
      have HLR := Lib.hid (show lk = l ++ agL (flatT t) by rw [← HLL.out, HZ.out]; simp [flatL, agL])
      go_wp2
      go_ret
      unfold NodeSaid
      rw [HR.out, ← HLR.out]
      exact ⟨rfl, HB.out, Lib.hid fun _ => HCK.out⟩

set_option maxRecDepth 100000 in
set_option maxHeartbeats 4000000 in
theorem node_rep (t : Tr) (ih : ∀ k ∈ t.kids, NodeLaw k) (hk : ¬ (t.kind < 1 ∨ 18 < t.kind)) (hb : kidsBad t = false) (hf : fieldsBad t = false) (h12 : t.kind = 12) : NodeLaw t := by
  intro g l d w cb B hn hck g0 g2 l2
  obtain ⟨ds, hn⟩ := hn.of
  have hnw : NodeAt w w.heap.size t d := NodeAt.map (fun h => h.more (by have := hck.hi; have := hck.lo; omega)) _ _ hn.node
  have HN := Lib.hid hn
  have HNW := Lib.hid hnw
  have HK := Lib.hid hn.knum
  have IH := Lib.hid ih
  have HBB := Lib.hid ((ND.box_below w d).mono (show B ≤ w.heap.size by have := hck.hi; have := hck.lo; omega))
  have HX0 := Lib.hid (BoxN.new w d)
  have HCK := Lib.hid hck
  have HCK0 := Lib.hid (hck.next (ND.box_below w d))
  have hlo := hck.lo
  have hhi := hck.hi
  have HBD := Lib.hid (ND.box_below w d)
  have HNX := Lib.hid (hnw.next (ND.box_below w d))
  have hkc := hn.kc1
  have hkm := hn.kc2
  have hsc := hn.sc1
  have hsm := hn.sc2
  unfold maxLen at hkm hsm
  have HSZ := Lib.hid (sizeT_eq t)
  have EK := Lib.hid hn.kind
  have EN := Lib.hid hn.num
  have EL := Lib.hid hn.least
  have EM := Lib.hid hn.most
  have EW := Lib.hid hn.way
  have C46 := Lib.hid (kids46 d.kind (d.kn : Nat) (d.box w))
  have KB := Lib.hid (show kidsOk d.kind (d.kn : Nat) = !kidsBad t by rw [kidsBad_ok, Bool.not_not, hn.kind, hn.knum.1])
  have C47 := Lib.hid (fields47 t d (d.box w) (some ⟨cb, 0, none⟩) (hnw.next (ND.box_below w d)))
  clear hn hck ih hnw
  obtain ⟨dk, dsA, dsn, dsc, dkA, dkn, dkc, dnum, dleast, dmost, dway, dfold⟩ := d
  unfold ND.agg at *
  unfold ND.box at *
  simp only at hkc hkm hsc hsm HK EK EN EL EM EW C46 C47 HBB HX0 HCK0 HBD KB HNX
  have HR := Lib.hid (show rightE t = repE t by unfold rightE; rw [if_neg hk, if_neg (by rw [hb, hf]; simp), if_neg (by omega), if_pos h12])
  have HS := Lib.hid (show rightE t = 0 → stepE t g = (0, g) from fun h => by unfold stepE; rw [h, if_neg (by simp), if_neg (by omega)])
  have HL0 := Lib.hid (show l ++ agL (flatL (t.kids.drop 0)) = l ++ agL (flatT t) by rw [ag_go, agL_one, if_neg (by omega), List.append_nil]; rfl)
  rw [← EK.out] at hk
  rw [KB.out, hb] at C46
  rw [hf] at C47
  clear KB
  have h1 : ¬ dk < 1 := by omega
  have h2 : ¬ 18 < dk := by omega
  obtain rfl : dk = 12 := by have := EK.out; omega
  clear hb hf h12
  obtain ⟨r3, hr3⟩ : ∃ x : Bool, x = decide ((dleast < 0 ∨ 100 < dleast) ∨ dmost < -1 ∨ 100 < dmost ∨ (0 ≤ dmost ∧ dmost < dleast)) := ⟨_, rfl⟩
  obtain ⟨r7, hr7⟩ : ∃ x : Bool, x = decide (¬ (1 ≤ dway ∧ dway ≤ 3)) := ⟨_, rfl⟩
  have HRE := Lib.hid (show repE t = if r3 = true then 3 else if r7 = true then 7 else 0 by unfold repE; rw [hr3, hr7, ← EL.out, ← EM.out, ← EW.out]; simp only [decide_eq_true_eq])
  have HR3 := Lib.hid hr3
  have HR7 := Lib.hid hr7
  clear hr3 hr7
  go_enter Tryd.func15, Tryd.ntmps15
  go_upto_region 11 with (first | (go_at_call 26; refine C46.out.mono ?_; rintro e w' ⟨rfl, rfl⟩) | (go_at_call 27; refine C47.out.mono ?_; rintro e w1 ⟨rfl, hb1⟩; have CK1 := HCK0.out.next hb1; have HBB2 := Lib.hid (HBB.out.trans (hb1.mono (show B ≤ _ by have := HBB.out.size; omega))); have HBX := Lib.hid (HX0.out.next hb1); have HB1 := Lib.hid hb1; obtain ⟨x0, x1, x2, x3, x4, x5, x6, x7, x8⟩ := HX0.out.next hb1; clear hb1))
  clear HCK0 C46 C47 HNX HNW
  go_cut [71] from 42 to 71 (fun z wc => z = .bool r3 ∧ w1 = wc)
  case first =>
    clear EL EM EW
    go_wp2_with fail
    all_goals ((try subst dleast); (try subst dmost); go_meet; refine ⟨congrArg Value.bool ?_, rfl⟩; rw [HR3.out]; clear HR3; rw [Bool.eq_iff_iff]; simp <;> (try omega))
  case rest =>
    obtain ⟨rfl, rfl⟩ := hcut
    clear HR3
    cases r3
    case true =>
      go_wp2_with fail
      go_ret
      exact said_bad (HR.out.trans HRE.out) (by decide) HBB2.out
    case false =>
      go_upto_region 13 with (fail)
      go_cut [79] from 72 to 79 (fun z wc => z = .bool r7 ∧ w1 = wc)
      case first =>
        clear EL EM EW
        go_wp2_with fail
        all_goals (go_meet; refine ⟨congrArg Value.bool ?_, rfl⟩; rw [HR7.out]; clear HR7; rw [Bool.eq_iff_iff]; simp <;> (try omega))
      case rest =>
        obtain ⟨rfl, rfl⟩ := hcut
        clear HR7
        cases r7
        case true =>
          go_wp2_with fail
          go_ret
          exact said_bad (HR.out.trans HRE.out) (by decide) HBB2.out
        case false =>
          obtain ⟨g1, hg1⟩ : ∃ x, x = g := ⟨_, rfl⟩
          obtain ⟨l1, hl1⟩ : ∃ x, x = l := ⟨_, rfl⟩
          have HE := Lib.hid (show nodeE t g = nodesE t.kids g1 by rw [hg1]; exact node_go (HS.out (HR.out.trans HRE.out)))
          have HL1 := Lib.hid (show l1 ++ agL (flatL (t.kids.drop 0)) = l ++ agL (flatT t) by rw [hl1]; exact HL0.out)
          have HCK1 := Lib.hid (show CkAt w1 B cb g1 l1 by rw [hg1, hl1]; exact CK1)
          have hg10 : 0 ≤ g1 := by omega
          have hg11 : g1 + (sizeL (t.kids.drop 0) : Nat) ≤ 100000 := by have := HSZ.out; show g1 + (sizeL t.kids : Nat) ≤ 100000; omega
          have hl11 : l1.length + sizeL (t.kids.drop 0) ≤ 100000 := by have := HSZ.out; show l1.length + sizeL t.kids ≤ 100000; rw [hl1]; omega
          clear hg1 hl1 CK1
          have HBB1 := HBB2
          go_wp2_with fail
          go_loopw [112] (fun i wr => ∃ (k : Nat) (gk : Int) (lk : List Int), k ≤ dkn ∧ i = .int .i64 k ∧ Hid (nodesE (t.kids.drop k) gk = nodesE t.kids g1) ∧ Hid (CkAt wr B cb gk lk) ∧ Hid (lk ++ agL (flatL (t.kids.drop k)) = l ++ agL (flatT t)) ∧ Hid (Below B w wr) ∧
              0 ≤ gk ∧ gk + (sizeL (t.kids.drop k) : Nat) ≤ 100000 ∧ lk.length + sizeL (t.kids.drop k) ≤ 100000 ∧ B ≤ wr.heap.size) (fun i _ => dkn - (intOf i).toNat)
          case atStart => exact ⟨0, g1, l1, Nat.zero_le _, rfl, Lib.hid rfl, HCK1, HL1, HBB1, hg10, hg11, hl11, by have := HBB1.out.size; omega⟩
          case round =>
            obtain ⟨k, gk, lk, hk, rfl, HM, HCK, HLL, HB, hg0, hgs, hls, hBs⟩ := hrel
            by_cases hlt : k < dkn
            · obtain ⟨b1, off1, hl1, hA, hb1, c0, c1, c2, c3, c4, c5, c6, c7⟩ := (HN.out.kids.below HB.out (Nat.le_refl _)).node_at hlt
              have hkl : k < t.kids.length := by rw [HK.out.1]; exact hlt
              have HKID := Lib.hid (NodeAt.map (fun h => h.below HB.out (Nat.le_refl _)) _ _ (HN.out.each.at k hkl hl1))
              have HD := Lib.hid (nodesE_drop t.kids k hkl gk)
              have HDL := Lib.hid (agL_drop t.kids k hkl lk)
              have HDS := Lib.hid (sizeL_drop t.kids k hkl)
              have HIH := Lib.hid (IH.out _ (List.getElem_mem hkl))
              obtain ⟨kid, hkid⟩ : ∃ x, x = t.kids[k] := ⟨_, rfl⟩
              rw [← hkid] at HKID HD HDL HDS HIH
              clear hkid
              obtain ⟨e, he⟩ : ∃ x, x = ds[k] := ⟨_, rfl⟩
              rw [← he] at c0 c1 c2 c3 c4 c5 c6 c7 HKID
              clear he
              simp only at hA
              have HAA := Lib.hid hA
              subst hA
              have k2 : (k : Int) < (dkn : Int) := by omega
              have HNL := Lib.hid (nodeE_le kid gk)
              have HFL := Lib.hid (agL_len (flatT kid))
              have hds := HDS.out
              have HBX := Lib.hid (ND.box_below wr e)
              have HC := Lib.hid (HIH.out gk lk e (e.box wr) cb B (NodeAt.map (fun h => h.below (ND.box_below wr e) hBs) _ _ HKID.out) (HCK.out.next (ND.box_below wr e)) hg0 (by omega) (by omega))
              unfold ND.box at HBX HC
              unfold ND.agg NodeSaid at HC
              obtain ⟨ee, hee⟩ : ∃ x, x = nodeE kid gk := ⟨_, rfl⟩
              rw [← hee] at HC HNL HD
              clear hee hds
              obtain ⟨er, ge⟩ := ee
              simp only at HC HNL HD
              go_wp2_with fail
              refine HC.out.mono ?_
              rintro en w2 ⟨rfl, hb2, hcc⟩
              have HB2 := Lib.hid (HB.out.trans ((HBX.out.mono hBs).trans hb2))
              have HCC := Lib.hid hcc
              clear hb2 hcc
              by_cases her : er = 0
              · subst her
                have HCK2 := HCC.out.out rfl
                have HR := Lib.hid (show nodesE (t.kids.drop k) gk = nodesE (t.kids.drop (k + 1)) ge by rw [HD.out, if_neg (by simp)])
                go_wp2
                go_roundw
                case rel => exact ⟨k + 1, ge, lk ++ agL (flatT kid), by omega, by go_num, Lib.hid (HR.out.symm.trans HM.out), Lib.hid HCK2, Lib.hid (HDL.out.symm.trans HLL.out), HB2, by have := HNL.out; omega, by have := HNL.out; have := HDS.out; omega, by have := HDS.out; have := HFL.out; rw [flatT_len] at this; rw [List.length_append]; omega, by have := HB2.out.size; omega⟩
                case measure => simp [intOf]; omega
              · have HR := Lib.hid (show nodeE t g = (er, ge) by rw [HE.out, ← HM.out, HD.out, if_pos her])
                go_wp2
                go_ret
                unfold NodeSaid
                rw [HR.out]
                exact ⟨rfl, HB2.out, Lib.hid fun h => absurd h her⟩
            · obtain rfl : k = dkn := by omega
              have HZ := Lib.hid (show t.kids.drop k = [] from List.drop_of_length_le (by rw [HK.out.1]; exact Nat.le_refl _))
              have HR := Lib.hid (show nodeE t g = (0, gk) by rw [HE.out, ← HM.out, HZ.out]; rfl)
              have HLR := Lib.hid (show lk = l ++ agL (flatT t) by rw [← HLL.out, HZ.out]; simp [flatL, agL])
              go_wp2
              go_ret
              unfold NodeSaid
              rw [HR.out, ← HLR.out]
              exact ⟨rfl, HB.out, Lib.hid fun _ => HCK.out⟩
end Go.Proofs.YtbekjfoefjnidaaDoor
