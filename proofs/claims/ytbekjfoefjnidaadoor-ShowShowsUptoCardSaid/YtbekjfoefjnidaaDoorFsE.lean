/- the checker's node: a group, one that is had again; all together: walked. -/
import Derived.Test.YtbekjfoefjnidaaDoorFsD
namespace Go.Proofs.YtbekjfoefjnidaaDoor
open Go.RowKit
set_option linter.unusedVariables false

set_option maxRecDepth 100000 in
set_option maxHeartbeats 4000000 in
theorem node_group (t : Tr) (ih : ∀ k ∈ t.kids, NodeLaw k) (hk : ¬ (t.kind < 1 ∨ 18 < t.kind)) (hb : kidsBad t = false) (hf : fieldsBad t = false) (h11 : t.kind = 11) : NodeLaw t := by
  intro g l d w cb B hn hck g0 g2 l2
  obtain ⟨ds, hn⟩ := hn.of
  have hnw : NodeAt w w.heap.size t d := NodeAt.map (fun h => h.more (by have := hck.hi; have := hck.lo; omega)) _ _ hn.node
  have HN := Lib.hid hn
  have HNW := Lib.hid hnw
  have HK := Lib.hid hn.knum
  have IH := Lib.hid ih
  have HBB := Lib.hid ((ND.box_below w d).mono (show B ≤ w.heap.size by have := hck.hi; have := hck.lo; omega))
  have HX0 := Lib.hid (BoxN.new w d)
  have HCK := Lib.hid hck
  have HCK0 := Lib.hid (hck.next (ND.box_below w d))
  have hlo := hck.lo
  have hhi := hck.hi
  have HBD := Lib.hid (ND.box_below w d)
  have HNX := Lib.hid (hnw.next (ND.box_below w d))
  have hkc := hn.kc1
  have hkm := hn.kc2
  have hsc := hn.sc1
  have hsm := hn.sc2
  unfold maxLen at hkm hsm
  have HSZ := Lib.hid (sizeT_eq t)
  have EK := Lib.hid hn.kind
  have EN := Lib.hid hn.num
  have EL := Lib.hid hn.least
  have EM := Lib.hid hn.most
  have EW := Lib.hid hn.way
  have C46 := Lib.hid (kids46 d.kind (d.kn : Nat) (d.box w))
  have KB := Lib.hid (show kidsOk d.kind (d.kn : Nat) = !kidsBad t by rw [kidsBad_ok, Bool.not_not, hn.kind, hn.knum.1])
  have C47 := Lib.hid (fields47 t d (d.box w) (some ⟨cb, 0, none⟩) (hnw.next (ND.box_below w d)))
  clear hn hck ih hnw
  obtain ⟨dk, dsA, dsn, dsc, dkA, dkn, dkc, dnum, dleast, dmost, dway, dfold⟩ := d
  unfold ND.agg at *
  unfold ND.box at *
  simp only at hkc hkm hsc hsm HK EK EN EL EM EW C46 C47 HBB HX0 HCK0 HBD KB HNX
  have HR := Lib.hid (show rightE t = 0 by unfold rightE; rw [if_neg hk, if_neg (by rw [hb, hf]; simp), if_neg (by omega), if_neg (by omega)])
  rw [← EK.out] at hk
  rw [KB.out, hb] at C46
  rw [hf] at C47
  clear KB
  have h1 : ¬ dk < 1 := by omega
  have h2 : ¬ 18 < dk := by omega
  have HST := Lib.hid (show stepE t g = if dnum = g + 1 then (0, g + 1) else (4, g + 1) by unfold stepE; rw [HR.out, if_neg (by simp), if_pos h11, EN.out])
  obtain rfl : dk = 11 := by have := EK.out; omega
  have HL0 := Lib.hid (show l ++ agL (flatL (t.kids.drop 0)) = l ++ agL (flatT t) by rw [ag_go, agL_one, if_neg (by omega), List.append_nil]; rfl)
  clear hb hf h11
  have hgb : g ≤ 100000 := by omega
  go_enter Tryd.func15, Tryd.ntmps15
  go_upto_region 16 with (first | (go_at_call 26; refine C46.out.mono ?_; rintro e w' ⟨rfl, rfl⟩) | (go_at_call 27; refine C47.out.mono ?_; rintro e w1 ⟨rfl, hb1⟩; have CK1 := HCK0.out.next hb1; have HBB2 := Lib.hid (HBB.out.trans (hb1.mono (show B ≤ _ by have := HBB.out.size; omega))); have HBX := Lib.hid (HX0.out.next hb1); have HB1 := Lib.hid hb1; obtain ⟨x0, x1, x2, x3, x4, x5, x6, x7, x8⟩ := HX0.out.next hb1; clear hb1))
  have HCK1 := Lib.hid CK1
  obtain ⟨_, ch, cf0, _, cc0, _⟩ := CK1
  have hne : cb ≠ w.heap.size := by omega
  have hsw := HBB.out.size
  have HBC := Lib.hid (HBB2.out.setCell (p := ⟨cb, 0, none⟩) hlo (.int .i64 (g + 1)))
  have HCK2 := Lib.hid (HCK1.out.count (g + 1))
  have z3 : (w1.setCell ⟨cb, 0, none⟩ (.int .i64 (g + 1))).cell? ⟨w.heap.size, 3, none⟩ = some (.int .i64 dnum) := (World.cell?_setCell_other _ _ _ _ (by simp)).trans x4
  have z2 : (w1.setCell ⟨cb, 0, none⟩ (.int .i64 (g + 1))).cell? ⟨w.heap.size, 2, none⟩ = some (.slice dkA dkn dkc) := (World.cell?_setCell_other _ _ _ _ (by simp)).trans x3
  have zc := HCK2.out.c0
  go_upto_region 17 with (fail)
  by_cases hng : dnum = g + 1
  · have hnb : (dnum != g + 1) = false := by simp [hng]
    have HST1 := Lib.hid (show stepE t g = (0, g + 1) by rw [HST.out, if_pos hng])
    go_quiet (fail)
    go_wp2_with fail
    obtain ⟨g1, hg1⟩ : ∃ x, x = g + 1 := ⟨_, rfl⟩
    obtain ⟨l1, hl1⟩ : ∃ x, x = l := ⟨_, rfl⟩
    have HE := Lib.hid (show nodeE t g = nodesE t.kids g1 by rw [hg1]; exact node_go HST1.out)
    have HL1 := Lib.hid (show l1 ++ agL (flatL (t.kids.drop 0)) = l ++ agL (flatT t) by rw [hl1]; exact HL0.out)
    have HCKX := HCK1
    clear HCK1
    have HCK1 := Lib.hid (show CkAt ((w1.setCell ⟨cb, 0, none⟩ (.int .i64 (g + 1))).drewN nq) B cb g1 l1 by rw [hg1, hl1]; exact HCK2.out.drewN nq)
    have hg10 : 0 ≤ g1 := by omega
    have hg11 : g1 + (sizeL (t.kids.drop 0) : Nat) ≤ 100000 := by have := HSZ.out; show g1 + (sizeL t.kids : Nat) ≤ 100000; omega
    have hl11 : l1.length + sizeL (t.kids.drop 0) ≤ 100000 := by have := HSZ.out; show l1.length + sizeL t.kids ≤ 100000; rw [hl1]; omega
    clear hg1 hl1
    have HBB1 := Lib.hid (below_drewN HBC.out nq)
    clear z2 z3 zc cc0 cf0 ch hnb hng
    go_loopw [112] (fun i wr => ∃ (k : Nat) (gk : Int) (lk : List Int), k ≤ dkn ∧ i = .int .i64 k ∧ Hid (nodesE (t.kids.drop k) gk = nodesE t.kids g1) ∧ Hid (CkAt wr B cb gk lk) ∧ Hid (lk ++ agL (flatL (t.kids.drop k)) = l ++ agL (flatT t)) ∧ Hid (Below B w wr) ∧
        0 ≤ gk ∧ gk + (sizeL (t.kids.drop k) : Nat) ≤ 100000 ∧ lk.length + sizeL (t.kids.drop k) ≤ 100000 ∧ B ≤ wr.heap.size) (fun i _ => dkn - (intOf i).toNat)
    case atStart => exact ⟨0, g1, l1, Nat.zero_le _, rfl, Lib.hid rfl, HCK1, HL1, HBB1, hg10, hg11, hl11, by have := HBB1.out.size; omega⟩
    case round =>
      obtain ⟨k, gk, lk, hk, rfl, HM, HCK, HLL, HB, hg0, hgs, hls, hBs⟩ := hrel
      by_cases hlt : k < dkn
      · obtain ⟨b1, off1, hl1, hA, hb1, c0, c1, c2, c3, c4, c5, c6, c7⟩ := (HN.out.kids.below HB.out (Nat.le_refl _)).node_at hlt
        have hkl : k < t.kids.length := by rw [HK.out.1]; exact hlt
        have HKID := Lib.hid (NodeAt.map (fun h => h.below HB.out (Nat.le_refl _)) _ _ (HN.out.each.at k hkl hl1))
        have HD := Lib.hid (nodesE_drop t.kids k hkl gk)
        have HDL := Lib.hid (agL_drop t.kids k hkl lk)
        have HDS := Lib.hid (sizeL_drop t.kids k hkl)
        have HIH := Lib.hid (IH.out _ (List.getElem_mem hkl))
        obtain ⟨kid, hkid⟩ : ∃ x, x = t.kids[k] := ⟨_, rfl⟩
        rw [← hkid] at HKID HD HDL HDS HIH
        clear hkid
        obtain ⟨e, he⟩ : ∃ x, x = ds[k] := ⟨_, rfl⟩
        rw [← he] at c0 c1 c2 c3 c4 c5 c6 c7 HKID
        clear he
        simp only at hA
        have HAA := Lib.hid hA
        subst hA
        have k2 : (k : Int) < (dkn : Int) := by omega
        have HNL := Lib.hid (nodeE_le kid gk)
        have HFL := Lib.hid (agL_len (flatT kid))
        have hds := HDS.out
        have HBX := Lib.hid (ND.box_below wr e)
        have HC := Lib.hid (HIH.out gk lk e (e.box wr) cb B (NodeAt.map (fun h => h.below (ND.box_below wr e) hBs) _ _ HKID.out) (HCK.out.next (ND.box_below wr e)) hg0 (by omega) (by omega))
        unfold ND.box at HBX HC
        unfold ND.agg NodeSaid at HC
        obtain ⟨ee, hee⟩ : ∃ x, x = nodeE kid gk := ⟨_, rfl⟩
        rw [← hee] at HC HNL HD
        clear hee hds
        obtain ⟨er, ge⟩ := ee
        simp only at HC HNL HD
        go_wp2_with fail
        refine HC.out.mono ?_
        rintro en w2 ⟨rfl, hb2, hcc⟩
        have HB2 := Lib.hid (HB.out.trans ((HBX.out.mono hBs).trans hb2))
        have HCC := Lib.hid hcc
        clear hb2 hcc
        by_cases her : er = 0
        · subst her
          have HCK2 := HCC.out.out rfl
          have HR := Lib.hid (show nodesE (t.kids.drop k) gk = nodesE (t.kids.drop (k + 1)) ge by rw [HD.out, if_neg (by simp)])
          go_wp2
          go_roundw
          case rel => exact ⟨k + 1, ge, lk ++ agL (flatT kid), by omega, by go_num, Lib.hid (HR.out.symm.trans HM.out), Lib.hid HCK2, Lib.hid (HDL.out.symm.trans HLL.out), HB2, by have := HNL.out; omega, by have := HNL.out; have := HDS.out; omega, by have := HDS.out; have := HFL.out; rw [flatT_len] at this; rw [List.length_append]; omega, by have := HB2.out.size; omega⟩
          case measure => simp [intOf]; omega
        · have HR := Lib.hid (show nodeE t g = (er, ge) by rw [HE.out, ← HM.out, HD.out, if_pos her])
          go_wp2
          go_ret
          unfold NodeSaid
          rw [HR.out]
          exact ⟨rfl, HB2.out, Lib.hid fun h => absurd h her⟩
      · obtain rfl : k = dkn := by omega
        have HZ := Lib.hid (show t.kids.drop k = [] from List.drop_of_length_le (by rw [HK.out.1]; exact Nat.le_refl _))
        have HR := Lib.hid (show nodeE t g = (0, gk) by rw [HE.out, ← HM.out, HZ.out]; rfl)
        have HLR := Lib.hid (show lk = l ++ agL (flatT t) by rw [← HLL.out, HZ.out]; simp [flatL, agL])
        go_wp2
        go_ret
        unfold NodeSaid
        rw [HR.out, ← HLR.out]
        exact ⟨rfl, HB.out, Lib.hid fun _ => HCK.out⟩
  · have hnb : (dnum != g + 1) = true := by simp [hng]
    have HST1 := Lib.hid (show nodeE t g = (4, g + 1) by rw [nodeE_eq, HST.out, if_neg hng, if_pos (by simp)])
    go_quiet (fail)
    go_wp2_with fail
    go_ret
    unfold NodeSaid
    rw [HST1.out]
    exact ⟨rfl, below_drewN HBC.out _, Lib.hid fun h => absurd h (by simp)⟩

set_option maxRecDepth 100000 in
set_option maxHeartbeats 4000000 in
theorem node_again (t : Tr) (ih : ∀ k ∈ t.kids, NodeLaw k) (hk : ¬ (t.kind < 1 ∨ 18 < t.kind)) (hb : kidsBad t = false) (hf : fieldsBad t = false) (h18 : t.kind = 18) : NodeLaw t := by
  intro g l d w cb B hn hck g0 g2 l2
  obtain ⟨ds, hn⟩ := hn.of
  have hnw : NodeAt w w.heap.size t d := NodeAt.map (fun h => h.more (by have := hck.hi; have := hck.lo; omega)) _ _ hn.node
  have HN := Lib.hid hn
  have HNW := Lib.hid hnw
  have HK := Lib.hid hn.knum
  have IH := Lib.hid ih
  have HBB := Lib.hid ((ND.box_below w d).mono (show B ≤ w.heap.size by have := hck.hi; have := hck.lo; omega))
  have HX0 := Lib.hid (BoxN.new w d)
  have HCK := Lib.hid hck
  have HCK0 := Lib.hid (hck.next (ND.box_below w d))
  have hlo := hck.lo
  have hhi := hck.hi
  have HBD := Lib.hid (ND.box_below w d)
  have HNX := Lib.hid (hnw.next (ND.box_below w d))
  have hkc := hn.kc1
  have hkm := hn.kc2
  have hsc := hn.sc1
  have hsm := hn.sc2
  unfold maxLen at hkm hsm
  have HSZ := Lib.hid (sizeT_eq t)
  have EK := Lib.hid hn.kind
  have EN := Lib.hid hn.num
  have EL := Lib.hid hn.least
  have EM := Lib.hid hn.most
  have EW := Lib.hid hn.way
  have C46 := Lib.hid (kids46 d.kind (d.kn : Nat) (d.box w))
  have KB := Lib.hid (show kidsOk d.kind (d.kn : Nat) = !kidsBad t by rw [kidsBad_ok, Bool.not_not, hn.kind, hn.knum.1])
  have C47 := Lib.hid (fields47 t d (d.box w) (some ⟨cb, 0, none⟩) (hnw.next (ND.box_below w d)))
  clear hn hck ih hnw
  obtain ⟨dk, dsA, dsn, dsc, dkA, dkn, dkc, dnum, dleast, dmost, dway, dfold⟩ := d
  unfold ND.agg at *
  unfold ND.box at *
  simp only at hkc hkm hsc hsm HK EK EN EL EM EW C46 C47 HBB HX0 HCK0 HBD KB HNX
  have HR := Lib.hid (show rightE t = 0 by unfold rightE; rw [if_neg hk, if_neg (by rw [hb, hf]; simp), if_neg (by omega), if_neg (by omega)])
  have HST := Lib.hid (show stepE t g = (0, g) by unfold stepE; rw [HR.out, if_neg (by simp), if_neg (by omega)])
  have HL0 := Lib.hid (show (l ++ [dnum]) ++ agL (flatL (t.kids.drop 0)) = l ++ agL (flatT t) by rw [ag_go, agL_one, if_pos h18, EN.out]; rfl)
  rw [← EK.out] at hk
  rw [KB.out, hb] at C46
  rw [hf] at C47
  clear KB
  have h1 : ¬ dk < 1 := by omega
  have h2 : ¬ 18 < dk := by omega
  obtain rfl : dk = 18 := by have := EK.out; omega
  clear hb hf h18
  go_enter Tryd.func15, Tryd.ntmps15
  go_upto_region 20 with (first | (go_at_call 26; refine C46.out.mono ?_; rintro e w' ⟨rfl, rfl⟩) | (go_at_call 27; refine C47.out.mono ?_; rintro e w1 ⟨rfl, hb1⟩; have CK1 := HCK0.out.next hb1; have HBB2 := Lib.hid (HBB.out.trans (hb1.mono (show B ≤ _ by have := HBB.out.size; omega))); have HBX := Lib.hid (HX0.out.next hb1); have HB1 := Lib.hid hb1; obtain ⟨x0, x1, x2, x3, x4, x5, x6, x7, x8⟩ := HX0.out.next hb1; clear hb1))
  have HCKX := Lib.hid CK1
  have HBW := Lib.hid (HBD.out.trans (HB1.out.mono HBD.out.size))
  obtain ⟨_, _, _, _, _, A0, n0, c0, hcw, how⟩ := HCK.out
  have hown := own_below how HBW.out (Nat.le_refl _)
  have cc1 : w1.cell? ⟨cb, 1, none⟩ = some (.slice A0 n0 c0) := by rw [HBW.out.cell (p := ⟨cb, 1, none⟩) hhi]; exact hcw
  obtain ⟨_, ch, cf0, cf1, cc0, _⟩ := CK1
  have hn0 : n0 ≤ 100000 := by have := own_ints_len hown; omega
  have hne : cb ≠ w.heap.size := by omega
  have hsw := HBW.out.size
  have HNE := Lib.hid (show (some cb : Option Nat) ≠ (Value.slice A0 n0 c0).ownBlock from fun e => absurd (how.lt cb e.symm).1 (by omega))
  have HNW2 := Lib.hid (show (some w.heap.size : Option Nat) ≠ (Value.slice A0 n0 c0).ownBlock from fun e => absurd (how.lt _ e.symm).2 (by omega))
  have R := Lib.hid (show Rds (w1.alloc (.cells #[.int .i64 dnum] 3)).drew (w1.heap.size + 1) 1 (some ⟨w1.heap.size, 0, none⟩) 1 (ints [dnum]) from Rds.new w1 1 1 #[.int .i64 dnum] 3 (ints [dnum]) rfl rfl)
  have HW := Lib.hid (show (w1.alloc (.cells #[.int .i64 dnum] 3)).drew.ownsRow (cb + 1) 3 1 (.slice A0 n0 c0) n0 (ints l) from hown.alloc _)
  have HNX2 := Lib.hid (show Below w1.heap.size w1 (w1.alloc (.cells #[.int .i64 dnum] 3)).drew from ((Below.refl _ _).alloc (Nat.le_refl _) _).drew)
  have HCKA := Lib.hid (HCKX.out.next HNX2.out)
  have ca1 : (w1.alloc (.cells #[.int .i64 dnum] 3)).drew.cell? ⟨cb, 1, none⟩ = some (.slice A0 n0 c0) := by rw [HNX2.out.cell (p := ⟨cb, 1, none⟩) ch]; exact cc1
  have hws : w.heap.size < w1.heap.size := by have := x0; omega
  have ca3 : (w1.alloc (.cells #[.int .i64 dnum] 3)).drew.cell? ⟨w.heap.size, 2, none⟩ = some (.slice dkA dkn dkc) := by rw [HNX2.out.cell (p := ⟨w.heap.size, 2, none⟩) hws]; exact x3
  have HCA1 := Lib.hid ca1
  have HCA3 := Lib.hid ca3
  obtain ⟨_, _, hv0, q1, q2⟩ := own_slice hown
  clear hv0 ca1 ca3 hown how
  unfold maxLen at q2
  go_region_law (first | (refine step_app_ints (.tmp 102) (.tmp 105) HW.out R.out (by omega) (by simp; omega) rfl rfl rfl rfl ?_; intro v3 w3 hown3 hg3 hat3; have HG3 := Lib.hid hg3; have HO3 := Lib.hid hown3; have hc3 := hg3.cell HCA1.out HNE.out; have hz3 := hg3.cell HCA3.out HNW2.out; have hf3 : w3.frozen? ⟨cb, 1, none⟩ = false := (by rw [World.frozen?_of_block (a := ⟨cb, 1, none⟩) (hg3.block cb (by simp; omega) HNE.out)]; exact HCKA.out.f1); obtain ⟨A3, c3, hv3, q3, q4⟩ := own_slice hown3; subst hv3; clear hown3 hg3 hat3))
  all_goals
    have hz4 : (w3.setCell ⟨cb, 1, none⟩ (.slice A3 (n0 + 1) c3)).cell? ⟨w.heap.size, 2, none⟩ = some (.slice dkA dkn dkc) := (World.cell?_setCell_other _ _ _ _ (by simp)).trans hz3
    go_wp2_with fail
    obtain ⟨g1, hg1⟩ : ∃ x, x = g := ⟨_, rfl⟩
    obtain ⟨l1, hl1⟩ : ∃ x, x = l ++ [dnum] := ⟨_, rfl⟩
    have HE := Lib.hid (show nodeE t g = nodesE t.kids g1 by rw [hg1]; exact node_go HST.out)
    have HL1 := Lib.hid (show l1 ++ agL (flatL (t.kids.drop 0)) = l ++ agL (flatT t) by rw [hl1]; exact HL0.out)
    have HCK1 := Lib.hid (show CkAt (w3.setCell ⟨cb, 1, none⟩ (.slice A3 (n0 + 1) c3)) B cb g1 l1 by rw [hg1, hl1]; exact HCKA.out.app HW.out HG3.out HO3.out)
    have hg10 : 0 ≤ g1 := by omega
    have hg11 : g1 + (sizeL (t.kids.drop 0) : Nat) ≤ 100000 := by have := HSZ.out; show g1 + (sizeL t.kids : Nat) ≤ 100000; omega
    have hl11 : l1.length + sizeL (t.kids.drop 0) ≤ 100000 := by have := HSZ.out; show l1.length + sizeL t.kids ≤ 100000; rw [hl1, List.length_append]; show l.length + 1 + sizeL t.kids ≤ 100000; omega
    clear hg1 hl1
    have HBB1 := Lib.hid (show Below B w (w3.setCell ⟨cb, 1, none⟩ (.slice A3 (n0 + 1) c3)) from (grown_own (HBB2.out.trans (HNX2.out.mono (show B ≤ _ by omega))) HW.out HG3.out (show B ≤ cb + 1 by omega) (by have := HNX2.out.size; omega)).setCell (p := ⟨cb, 1, none⟩) hlo _)
    clear hz4 hz3 hc3 hf3 cc1 cc0 cf1 cf0 hcw
    go_loopw [112] (fun i wr => ∃ (k : Nat) (gk : Int) (lk : List Int), k ≤ dkn ∧ i = .int .i64 k ∧ Hid (nodesE (t.kids.drop k) gk = nodesE t.kids g1) ∧ Hid (CkAt wr B cb gk lk) ∧ Hid (lk ++ agL (flatL (t.kids.drop k)) = l ++ agL (flatT t)) ∧ Hid (Below B w wr) ∧
        0 ≤ gk ∧ gk + (sizeL (t.kids.drop k) : Nat) ≤ 100000 ∧ lk.length + sizeL (t.kids.drop k) ≤ 100000 ∧ B ≤ wr.heap.size) (fun i _ => dkn - (intOf i).toNat)
    case atStart => exact ⟨0, g1, l1, Nat.zero_le _, rfl, Lib.hid rfl, HCK1, HL1, HBB1, hg10, hg11, hl11, by have := HBB1.out.size; omega⟩
    case round =>
      obtain ⟨k, gk, lk, hk, rfl, HM, HCK, HLL, HB, hg0, hgs, hls, hBs⟩ := hrel
      by_cases hlt : k < dkn
      · obtain ⟨b1, off1, hl1, hA, hb1, c0, c1, c2, c3, c4, c5, c6, c7⟩ := (HN.out.kids.below HB.out (Nat.le_refl _)).node_at hlt
        have hkl : k < t.kids.length := by rw [HK.out.1]; exact hlt
        have HKID := Lib.hid (NodeAt.map (fun h => h.below HB.out (Nat.le_refl _)) _ _ (HN.out.each.at k hkl hl1))
        have HD := Lib.hid (nodesE_drop t.kids k hkl gk)
        have HDL := Lib.hid (agL_drop t.kids k hkl lk)
        have HDS := Lib.hid (sizeL_drop t.kids k hkl)
        have HIH := Lib.hid (IH.out _ (List.getElem_mem hkl))
        obtain ⟨kid, hkid⟩ : ∃ x, x = t.kids[k] := ⟨_, rfl⟩
        rw [← hkid] at HKID HD HDL HDS HIH
        clear hkid
        obtain ⟨e, he⟩ : ∃ x, x = ds[k] := ⟨_, rfl⟩
        rw [← he] at c0 c1 c2 c3 c4 c5 c6 c7 HKID
        clear he
        simp only at hA
        have HAA := Lib.hid hA
        subst hA
        have k2 : (k : Int) < (dkn : Int) := by omega
        have HNL := Lib.hid (nodeE_le kid gk)
        have HFL := Lib.hid (agL_len (flatT kid))
        have hds := HDS.out
        have HBX := Lib.hid (ND.box_below wr e)
        have HC := Lib.hid (HIH.out gk lk e (e.box wr) cb B (NodeAt.map (fun h => h.below (ND.box_below wr e) hBs) _ _ HKID.out) (HCK.out.next (ND.box_below wr e)) hg0 (by omega) (by omega))
        unfold ND.box at HBX HC
        unfold ND.agg NodeSaid at HC
        obtain ⟨ee, hee⟩ : ∃ x, x = nodeE kid gk := ⟨_, rfl⟩
        rw [← hee] at HC HNL HD
        clear hee hds
        obtain ⟨er, ge⟩ := ee
        simp only at HC HNL HD
        go_wp2_with fail
        refine HC.out.mono ?_
        rintro en w2 ⟨rfl, hb2, hcc⟩
        have HB2 := Lib.hid (HB.out.trans ((HBX.out.mono hBs).trans hb2))
        have HCC := Lib.hid hcc
        clear hb2 hcc
        by_cases her : er = 0
        · subst her
          have HCK2 := HCC.out.out rfl
          have HR := Lib.hid (show nodesE (t.kids.drop k) gk = nodesE (t.kids.drop (k + 1)) ge by rw [HD.out, if_neg (by simp)])
          go_wp2
          go_roundw
          case rel => exact ⟨k + 1, ge, lk ++ agL (flatT kid), by omega, by go_num, Lib.hid (HR.out.symm.trans HM.out), Lib.hid HCK2, Lib.hid (HDL.out.symm.trans HLL.out), HB2, by have := HNL.out; omega, by have := HNL.out; have := HDS.out; omega, by have := HDS.out; have := HFL.out; rw [flatT_len] at this; rw [List.length_append]; omega, by have := HB2.out.size; omega⟩
          case measure => simp [intOf]; omega
        · have HR := Lib.hid (show nodeE t g = (er, ge) by rw [HE.out, ← HM.out, HD.out, if_pos her])
          go_wp2
          go_ret
          unfold NodeSaid
          rw [HR.out]
          exact ⟨rfl, HB2.out, Lib.hid fun h => absurd h her⟩
      · obtain rfl : k = dkn := by omega
        have HZ := Lib.hid (show t.kids.drop k = [] from List.drop_of_length_le (by rw [HK.out.1]; exact Nat.le_refl _))
        have HR := Lib.hid (show nodeE t g = (0, gk) by rw [HE.out, ← HM.out, HZ.out]; rfl)
        have HLR := Lib.hid (show lk = l ++ agL (flatT t) by rw [← HLL.out, HZ.out]; simp [flatL, agL])
        go_wp2
        go_ret
        unfold NodeSaid
        rw [HR.out, ← HLR.out]
        exact ⟨rfl, HB.out, Lib.hid fun _ => HCK.out⟩

theorem node37 (t : Tr) : NodeLaw t := by
  refine tree_ind (P := NodeLaw) (fun t ih => ?_) t
  by_cases hk : t.kind < 1 ∨ 18 < t.kind
  · exact node_kind t ih hk
  · by_cases hb : kidsBad t = true
    · exact node_kids t ih hk hb
    · have hb := Bool.eq_false_iff.2 hb
      by_cases hf : fieldsBad t = true
      · exact node_fields t ih hk hb hf
      · have hf := Bool.eq_false_iff.2 hf
        by_cases h2 : t.kind = 2
        · by_cases hc : chk t.set = 0
          · exact node_set t ih hk hb hf h2 hc
          · exact node_set_bad t ih hk hb hf h2 hc
        · by_cases h11 : t.kind = 11
          · exact node_group t ih hk hb hf h11
          · by_cases h12 : t.kind = 12
            · exact node_rep t ih hk hb hf h12
            · by_cases h18 : t.kind = 18
              · exact node_again t ih hk hb hf h18
              · exact node_else t ih hk hb hf h2 h11 h12 h18
end Go.Proofs.YtbekjfoefjnidaaDoor
