/- NodesOf of the reference; the laws ShowChecks, ShowNodes: walked. -/
import Derived.Test.YtbekjfoefjnidaaDoorShD
namespace Go.Proofs.YtbekjfoefjnidaaDoor
open Go.RowKit
set_option linter.unusedVariables false
theorem sizeL_take1 (ks : List Tr) (k : Nat) (h : k < ks.length) : sizeL (ks.take (k + 1)) = sizeL (ks.take k) + sizeT ks[k] := by
  rw [List.take_succ_eq_append_getElem h, sizeL_append]; simp [sizeL]
set_option maxRecDepth 100000 in
set_option maxHeartbeats 2000000 in
theorem nodesOf13 (t : Tr) : ∀ (d : ND) (w : World), NodeAt w w.heap.size t d → sizeT t ≤ 1000 → Calls Tryd.prog 13 #[d.agg] w fun e w' => e = .returned (.int .i64 (sizeT t : Nat)) ∧ Below w.heap.size w w' := by
  refine tree_ind (P := fun t => ∀ (d : ND) (w : World), NodeAt w w.heap.size t d → sizeT t ≤ 1000 → Calls Tryd.prog 13 #[d.agg] w fun e w' => e = .returned (.int .i64 (sizeT t : Nat)) ∧ Below w.heap.size w w') (fun t ih => ?_) t
  intro d w hn hs
  obtain ⟨ds, hn⟩ := hn.of
  have HN := Lib.hid hn
  have HK := Lib.hid hn.knum
  have IH := Lib.hid ih
  have HSZ := Lib.hid (sizeT_eq t)
  have HB0 := Lib.hid (ND.box_below w d)
  have HX0 := Lib.hid (BoxN.new w d)
  have hkc := hn.kc1
  have hkm := hn.kc2
  unfold maxLen at hkm
  clear hn ih
  obtain ⟨dk, dsA, dsn, dsc, dkA, dkn, dkc, dnum, dleast, dmost, dway, dfold⟩ := d
  unfold ND.agg at *
  unfold ND.box at HB0 HX0
  simp only at hkc hkm HK HB0 HX0
  go_enter Tryd.func13, Tryd.ntmps13
  go_wp2_with fail
  generalize hW0 : w.alloc (.cells #[.int .i64 dk, .slice dsA dsn dsc, .slice dkA dkn dkc, .int .i64 dnum, .int .i64 dleast, .int .i64 dmost, .int .i64 dway, .bool dfold] 25) = W0 at *
  clear hW0
  go_loopw [3, 4] (fun v i wr => ∃ k : Nat, k ≤ dkn ∧ v = .int .i64 ((1 + sizeL (t.kids.take k) : Nat)) ∧ i = .int .i64 k ∧ Hid (Below W0.heap.size W0 wr)) (fun _ i _ => dkn - (intOf i).toNat)
  case atStart => exact ⟨0, Nat.zero_le _, rfl, rfl, Lib.hid (Below.refl _ _)⟩
  case round =>
    obtain ⟨k, hk, rfl, rfl, HB⟩ := hrel
    obtain ⟨x0, x1, x2, x3, x4, x5, x6, x7, x8⟩ := HX0.out.next HB.out
    by_cases hlt : k < dkn
    · have HBW := Lib.hid (below_next HB0.out HB.out)
      obtain ⟨b1, off1, hl1, hA, hb1, c0, c1, c2, c3, c4, c5, c6, c7⟩ := (HN.out.kids.below HBW.out (Nat.le_refl _)).node_at hlt
      have hkl : k < t.kids.length := by rw [HK.out.1]; exact hlt
      have HTK := Lib.hid (sizeL_take1 t.kids k hkl)
      have hle := sizeL_take t.kids (k + 1)
      rw [HTK.out] at hle
      have hsz := HSZ.out
      have C := Lib.hid (IH.out _ (List.getElem_mem hkl) ds[k] wr (NodeAt.map (fun h => (h.below HBW.out (Nat.le_refl _)).more HBW.out.size) _ _ (HN.out.each.at k hkl hl1)) (by omega))
      obtain ⟨z, hz⟩ : ∃ z, z = sizeT t.kids[k] := ⟨_, rfl⟩
      rw [← hz] at HTK hle C
      clear hz
      obtain ⟨y, hy⟩ : ∃ z, z = sizeL (t.kids.take k) := ⟨_, rfl⟩
      rw [← hy] at HTK hle ⊢
      clear hy
      have hz1 : 1 + y + z ≤ 1000 := by omega
      clear hle hsz
      obtain ⟨e, he⟩ : ∃ x, x = ds[k] := ⟨_, rfl⟩
      rw [← he] at c0 c1 c2 c3 c4 c5 c6 c7 C
      clear he
      obtain ⟨ek, esA, esn, esc, ekA, ekn, ekc, enum, eleast, emost, eway, efold⟩ := e
      simp only at hA c0 c1 c2 c3 c4 c5 c6 c7 C
      have HAA := Lib.hid hA
      subst hA
      have k2 : (k : Int) < (dkn : Int) := by omega
      go_wp2_with (go_at_call 13; refine C.out.mono ?_; rintro en w1 ⟨rfl, hb⟩; have HB1 := Lib.hid (below_next HB.out hb); clear hb)
      go_roundw
      case rel => exact ⟨k + 1, by omega, by rw [HTK.out]; first | go_num | (congr 1; omega), by go_num, HB1⟩
      case measure => simp [intOf]; omega
    · obtain rfl : k = dkn := by omega
      have HZ := Lib.hid (show 1 + sizeL (t.kids.take k) = sizeT t by rw [List.take_of_length_le (by rw [HK.out.1]; exact Nat.le_refl _), ← HSZ.out])
      rw [HZ.out]
      go_wp2_with fail
      go_ret
      exact ⟨rfl, below_next HB0.out HB.out⟩
set_option maxRecDepth 100000 in
set_option maxHeartbeats 2000000 in
theorem lawShowNodes (t : Tr) (d : ND) (w : World) (hn : NodeAt w w.heap.size t d) (hsm : Small t) : Calls Tryd.prog 5 #[d.agg] w fun e w' => e = .returned (.bool true) ∧ Below w.heap.size w w' := by
  have HB0 := Lib.hid (ND.box_below w d)
  have HX0 := Lib.hid (BoxN.new w d)
  have HN1 := Lib.hid (fun (w1 : World) (h : Below w.heap.size w w1) => (NodeAt.map (fun r => (r.below h (Nat.le_refl _)).more h.size) _ _ hn : NodeAt w1 w1.heap.size t d))
  have C11 := Lib.hid (fun (w1 : World) (h : Below w.heap.size w w1) => nodes31 t d w1 (HN1.out w1 h))
  have C12 := Lib.hid (fun (w1 : World) (h : Below w.heap.size w w1) => tooGreat21 t d w1 (HN1.out w1 h) hsm)
  have HF := Lib.hid (fine_iff t)
  cases hg : tooG t
  case true =>
    rw [hg] at C11 C12
    clear hn hsm hg
    obtain ⟨dk, dsA, dsn, dsc, dkA, dkn, dkc, dnum, dleast, dmost, dway, dfold⟩ := d
    unfold ND.agg at *
    unfold ND.box at *
    simp only [if_true] at HB0 HX0 C11 C12 ⊢
    obtain ⟨x0, x1, x2, x3, x4, x5, x6, x7, x8⟩ := HX0.out
    go_enter Tryd.func5, Tryd.ntmps5
    go_wp2_with (first
      | (go_at_call 11; refine (C11.out _ HB0.out).mono ?_; rintro e w1 ⟨rfl, hb⟩; have HB1 := Lib.hid (below_next HB0.out hb); have HX1 := Lib.hid (HX0.out.next hb); clear x0 x1 x2 x3 x4 x5 x6 x7 x8; obtain ⟨x0, x1, x2, x3, x4, x5, x6, x7, x8⟩ := HX1.out; clear hb)
      | (go_at_call 12; refine (C12.out _ HB1.out).mono ?_; rintro e w2 ⟨rfl, hb⟩; have HB2 := Lib.hid (below_next HB1.out hb); clear hb)
      | (go_at_call 6; refine (begun6 _).mono ?_; rintro e w3 ⟨rfl, hb⟩; have HB3 := Lib.hid (below_next HB2.out hb); clear hb))
    go_ret
    exact ⟨rfl, HB3.out⟩
  case false =>
    have hs2 : sizeT t ≤ 1000 := by have := (HF.out.2 hg).1; omega
    have C13 := Lib.hid (fun (w1 : World) (h : Below w.heap.size w w1) => nodesOf13 t d w1 (HN1.out w1 h) hs2)
    rw [hg] at C11 C12
    clear hn hsm hg
    obtain ⟨dk, dsA, dsn, dsc, dkA, dkn, dkc, dnum, dleast, dmost, dway, dfold⟩ := d
    unfold ND.agg at *
    unfold ND.box at *
    simp only [Bool.false_eq_true, if_false] at HB0 HX0 C11 C12 C13 ⊢
    obtain ⟨x0, x1, x2, x3, x4, x5, x6, x7, x8⟩ := HX0.out
    go_enter Tryd.func5, Tryd.ntmps5
    go_wp2_with (first
      | (go_at_call 11; refine (C11.out _ HB0.out).mono ?_; rintro e w1 ⟨rfl, hb⟩; have HB1 := Lib.hid (below_next HB0.out hb); have HX1 := Lib.hid (HX0.out.next hb); clear x0 x1 x2 x3 x4 x5 x6 x7 x8; obtain ⟨x0, x1, x2, x3, x4, x5, x6, x7, x8⟩ := HX1.out; clear hb)
      | (go_at_call 12; refine (C12.out _ HB1.out).mono ?_; rintro e w2 ⟨rfl, hb⟩; have HB2 := Lib.hid (below_next HB1.out hb); have HX2 := Lib.hid (HX1.out.next hb); clear x0 x1 x2 x3 x4 x5 x6 x7 x8; obtain ⟨x0, x1, x2, x3, x4, x5, x6, x7, x8⟩ := HX2.out; clear hb)
      | (go_at_call 6; refine (begun6 _).mono ?_; rintro e w3 ⟨rfl, hb⟩; have HB3 := Lib.hid (below_next HB2.out hb); have HX3 := Lib.hid (HX2.out.next hb); clear x0 x1 x2 x3 x4 x5 x6 x7 x8; obtain ⟨x0, x1, x2, x3, x4, x5, x6, x7, x8⟩ := HX3.out; clear hb)
      | (go_at_call 13; refine (C13.out _ HB3.out).mono ?_; rintro e w4 ⟨rfl, hb⟩; have HB4 := Lib.hid (below_next HB3.out hb); clear hb))
    go_ret
    exact ⟨ret_bool (by simp), HB4.out⟩
set_option maxRecDepth 100000 in
set_option maxHeartbeats 2000000 in
theorem lawShowChecks (t : Tr) (d : ND) (gr : Int) (nA : Option Addr) (nn nc : Nat) (ns : List (ByteArray × Int)) (w : World) (hn : NodeAt w w.heap.size t d) (hsm : Small t) (hl : NamesAt w w.heap.size nA nn ns) (hnc : nn ≤ nc) (hcm : nc ≤ maxLen) (hnm : nn < maxLen) (htx : ∀ x ∈ ns, x.1.size ≤ 100000000) :
    Calls Tryd.prog 3 #[patV d gr nA nn nc] w fun e w' => e = .returned (.bool true) ∧ Below w.heap.size w w' := by
  have HP := Lib.hid (PatN.new w d gr nA nn nc)
  have HB := Lib.hid (patB_below w d gr nA nn nc)
  have C7 := Lib.hid (fun (w1 : World) (h : Below w.heap.size w w1) => check27 t d gr nA nn nc ns w1 (NodeAt.map (fun r => (r.below h (Nat.le_refl _)).more h.size) _ _ hn) ((hl.below h (Nat.le_refl _)).more h.size) hnc hcm hnm)
  have C8 := Lib.hid (fun (w1 : World) (h : Below w.heap.size w w1) => check22 t d gr nA nn nc ns w1 (NodeAt.map (fun r => (r.below h (Nat.le_refl _)).more h.size) _ _ hn) hsm ((hl.below h (Nat.le_refl _)).more h.size) hnc hcm hnm htx)
  clear hn hl hsm htx
  obtain ⟨er, her⟩ : ∃ x, x = patE t gr ns := ⟨_, rfl⟩
  rw [← her] at C7 C8
  clear her
  obtain ⟨dk, dsA, dsn, dsc, dkA, dkn, dkc, dnum, dleast, dmost, dway, dfold⟩ := d
  unfold patV at C7 C8 ⊢
  unfold patB at HP HB
  simp only at HP HB C7 C8 ⊢
  obtain ⟨⟨x0, x1, x2, x3, x4, x5, x6, x7, x8⟩, x9, x10⟩ := HP.out
  go_enter Tryd.func3, Tryd.ntmps3
  go_upto_region 1 with (fail)
  go_region_held3 (fun w' => w'.cell? ⟨w.heap.size, 0, none⟩ = some (.int .i64 dk) ∧ w'.cell? ⟨w.heap.size, 1, none⟩ = some (.slice dsA dsn dsc) ∧ w'.cell? ⟨w.heap.size, 2, none⟩ = some (.slice dkA dkn dkc) ∧ w'.cell? ⟨w.heap.size, 3, none⟩ = some (.int .i64 dnum) ∧ w'.cell? ⟨w.heap.size, 4, none⟩ = some (.int .i64 dleast) ∧ w'.cell? ⟨w.heap.size, 5, none⟩ = some (.int .i64 dmost) ∧ w'.cell? ⟨w.heap.size, 6, none⟩ = some (.int .i64 dway) ∧ w'.cell? ⟨w.heap.size, 7, none⟩ = some (.bool dfold) ∧ w'.cell? ⟨w.heap.size, 8, none⟩ = some (.int .i64 gr) ∧ w'.cell? ⟨w.heap.size, 9, none⟩ = some (.slice nA nn nc))
    (first | exact ⟨x1, x2, x3, x4, x5, x6, x7, x8, x9, x10⟩ | exact ⟨y1, y2, y3, y4, y5, y6, y7, y8, y9, y10⟩ | exact ⟨z1, z2, z3, z4, z5, z6, z7, z8, z9, z10⟩ | exact ⟨v1, v2, v3, v4, v5, v6, v7, v8, v9, v10⟩ | (trace_state; fail))
    (first
      | (go_at_call 6; refine (begun6 _).mono ?_; rintro en w1 ⟨rfl, hb⟩; have HB1 := Lib.hid (below_next HB.out.drew hb); have HP1 := Lib.hid (HP.out.next ((Below.refl _ _).drew.trans hb)); obtain ⟨⟨y0, y1, y2, y3, y4, y5, y6, y7, y8⟩, y9, y10⟩ := HP1.out; clear hb)
      | (go_at_call 7; refine (C7.out _ HB1.out).mono ?_; rintro en w2 ⟨rfl, hb⟩; have HB2 := Lib.hid (below_next HB1.out hb); have HP2 := Lib.hid (HP1.out.next hb); obtain ⟨⟨z0, z1, z2, z3, z4, z5, z6, z7, z8⟩, z9, z10⟩ := HP2.out; clear hb)
      | (go_at_call 8; refine (C8.out _ HB2.out).mono ?_; rintro en w3 ⟨rfl, hb⟩; have HB3 := Lib.hid (below_next HB2.out hb); have HP3 := Lib.hid (HP2.out.next hb); obtain ⟨⟨v0, v1, v2, v3, v4, v5, v6, v7, v8⟩, v9, v10⟩ := HP3.out; clear hb))
  all_goals
    (try go_wp2_with fail)
    go_ret
    exact ⟨ret_bool (by simp), HB3.out⟩
end Go.Proofs.YtbekjfoefjnidaaDoor
