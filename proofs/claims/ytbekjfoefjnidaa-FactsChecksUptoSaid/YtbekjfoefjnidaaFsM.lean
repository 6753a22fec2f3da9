/- wide: a repeat. -/
import Derived.Test.YtbekjfoefjnidaaFsL
namespace Go.Proofs.Ytbekjfoefjnidaa
open Go.RowKit
set_option linter.unusedVariables false
set_option maxRecDepth 100000 in
set_option maxHeartbeats 2000000 in
theorem wide_rep (t : Tr) (ih : ∀ k ∈ t.kids, WideLaw k) (hk : t.kind = 12) : WideLaw t := by
  intro d w hn hr
  obtain ⟨ds, hn⟩ := hn.of
  have HB := Lib.hid (wideW_below w d)
  have HX := Lib.hid ((BoxN.new w d).next ((Below.refl _ _).alloc (Nat.le_refl _) (.cells #[.int .i64 0, .int .i64 0] 59)))
  have hone : t.kids.length = 1 := by
    have h := right_kids (hr t (by rw [flatT_eq]; simp))
    unfold kidsBad at h
    rw [if_neg (by omega), if_pos (by omega)] at h
    simpa using h
  have hkn : d.kn = 1 := by have := hn.knum.1; omega
  have hdl : 0 < ds.length := by have := hn.knum.2; omega
  have HKID := Lib.hid (hn.each.at 0 (by omega) hdl)
  have HRK := Lib.hid (fun x (hx : x ∈ flatT (t.kids[0]'(by omega))) => hr x (flat_kid (List.getElem_mem (by omega)) hx))
  have HIH := Lib.hid (ih _ (List.getElem_mem (show 0 < t.kids.length by omega)))
  have HW := Lib.hid (show widT t = timesW (widT (t.kids[0]'(by omega))) t.least t.most by
    rw [widT_eq]
    unfold widK
    rw [if_neg (by omega), if_neg (by omega), if_neg (by omega), if_pos hk, widL_map, headD_map])
  obtain ⟨b1, off1, hl1, hA, hb1, c0, c1, c2, c3, c4, c5, c6, c7⟩ := (hn.kids.below (wideW_below w d) (Nat.le_refl _)).node_at (show 0 < d.kn by omega)
  have C := Lib.hid (HIH.out ds[0] (wideW w d).drew (NodeAt.map (fun r => (r.below (wideW_below w d).drew (Nat.le_refl _)).more (wideW_below w d).drew.size) _ _ HKID.out) HRK.out)
  have hrep := rightE_rep (hr t (by rw [flatT_eq]; simp)) hk
  have HOK := Lib.hid (widT_ok _ HRK.out)
  rw [← hn.least, ← hn.most] at hrep HW
  have hkc := hn.kc1
  rw [← hn.kind] at hk
  obtain ⟨e, he⟩ : ∃ x, x = ds[0] := ⟨_, rfl⟩
  rw [← he] at c0 c1 c2 c3 c4 c5 c6 c7 C
  obtain ⟨r, hrr⟩ : ∃ x, x = widT (t.kids[0]'(by omega)) := ⟨_, rfl⟩
  rw [← hrr] at HW C HOK
  clear he hn hr ih HKID HRK HIH hrr hdl hl1 hone
  obtain ⟨dk, dsA, dsn, dsc, dkA, dkn, dkc, dnum, dleast, dmost, dway, dfold⟩ := d
  simp only at hA hk hkn hkc hrep HW
  subst hkn
  have HAA := Lib.hid hA
  subst hA
  unfold ND.agg at C ⊢
  unfold wideW ND.box at *
  simp only at C HB HX c0 c1 c2 c3 c4 c5 c6 c7 ⊢
  simp only [Nat.zero_mul, Nat.add_zero] at c0 c1 c2 c3 c4 c5 c6 c7
  obtain ⟨r1, r2⟩ := r
  have i0 : (0 : Int) < ((1 : Nat) : Int) := by decide
  go_enter Try.func33, Try.ntmps33
  subst hk
  obtain ⟨p1, p2, p3, p4⟩ := hrep
  obtain ⟨x0, x1, x2, x3, x4, x5, x6, x7, x8⟩ := HX.out
  go_upto_region 10 with fail
  go_region_held3 (fun w' => w'.cell? ⟨w.heap.size, 2, none⟩ = some (.slice (some ⟨b1, off1, none⟩) 1 dkc) ∧ w'.cell? ⟨w.heap.size, 4, none⟩ = some (.int .i64 dleast) ∧ w'.cell? ⟨w.heap.size, 5, none⟩ = some (.int .i64 dmost) ∧ w'.cell? ⟨b1, off1, none⟩ = some (.int .i64 e.kind) ∧ w'.cell? ⟨b1, off1 + 1, none⟩ = some (.slice e.sA e.sn e.sc) ∧ w'.cell? ⟨b1, off1 + 2, none⟩ = some (.slice e.kA e.kn e.kc) ∧ w'.cell? ⟨b1, off1 + 3, none⟩ = some (.int .i64 e.num) ∧ w'.cell? ⟨b1, off1 + 4, none⟩ = some (.int .i64 e.least) ∧ w'.cell? ⟨b1, off1 + 5, none⟩ = some (.int .i64 e.most) ∧ w'.cell? ⟨b1, off1 + 6, none⟩ = some (.int .i64 e.way) ∧ w'.cell? ⟨b1, off1 + 7, none⟩ = some (.bool e.fold))
    (first | exact ⟨x3, x5, x6, c0, c1, c2, c3, c4, c5, c6, c7⟩ | exact ⟨y3, y5, y6, d0, d1, d2, d3, d4, d5, d6, d7⟩ | exact ⟨t3, t5, t6, g0, g1, g2, g3, g4, g5, g6, g7⟩ | (refine ⟨?_, ?_, ?_, ?_, ?_, ?_, ?_, ?_, ?_, ?_, ?_⟩ <;> (rw [World.cell?_setCell_other _ _ _ _ (by simp <;> omega), World.cell?_setCell_other _ _ _ _ (by simp <;> omega)]; assumption)) | go_keep | (trace_state; fail))
    (first
    | (go_at_call 33; refine C.out.mono ?_; rintro en w1 ⟨rfl, hb⟩; obtain ⟨rf, r0, r1'⟩ := res59' (g := w.heap.size + 1) (show Below (World.heap (World.alloc _ _)).size (World.alloc _ _) w1 from (Below.refl _ _).drew.trans hb) (by simp); have HB1 := Lib.hid (below_next HB.out.drew hb); have HY1 := Lib.hid (HX.out.next ((Below.refl _ _).drew.trans hb)); obtain ⟨y0, y1, y2, y3, y4, y5, y6, y7, y8⟩ := HY1.out; have hbb : b1 < (World.drew _).heap.size := Nat.lt_of_lt_of_le hb1 HB.out.drew.size; have d0 := (hb.cell (p := ⟨b1, off1, none⟩) hbb).trans c0; have d1 := (hb.cell (p := ⟨b1, off1 + 1, none⟩) hbb).trans c1; have d2 := (hb.cell (p := ⟨b1, off1 + 2, none⟩) hbb).trans c2; have d3 := (hb.cell (p := ⟨b1, off1 + 3, none⟩) hbb).trans c3; have d4 := (hb.cell (p := ⟨b1, off1 + 4, none⟩) hbb).trans c4; have d5 := (hb.cell (p := ⟨b1, off1 + 5, none⟩) hbb).trans c5; have d6 := (hb.cell (p := ⟨b1, off1 + 6, none⟩) hbb).trans c6; have d7 := (hb.cell (p := ⟨b1, off1 + 7, none⟩) hbb).trans c7; have hbb1 := Nat.lt_of_lt_of_le hbb hb.size; have hlt1 : w.heap.size + 1 < w1.heap.size := (by have := hb.size; simp at this; omega); clear hb; unfold wV)
    | (go_at_call 41; refine (times41 (r1, r2) dleast dmost _ HOK.out p1 p2 p3 p4).mono ?_; rintro en w2 ⟨rfl, hb2⟩; have s0 : w2.cell? ⟨w.heap.size + 1, 0, none⟩ = some (.int .i64 0) := (by rw [hb2.cell (p := ⟨w.heap.size + 1, 0, none⟩) hlt1]; exact r0); have s1 : w2.cell? ⟨w.heap.size + 1, 1, none⟩ = some (.int .i64 0) := (by rw [hb2.cell (p := ⟨w.heap.size + 1, 1, none⟩) hlt1]; exact r1'); have sf : ∀ j, w2.frozen? ⟨w.heap.size + 1, j, none⟩ = false := (fun j => by rw [hb2.frozen (p := ⟨w.heap.size + 1, j, none⟩) hlt1]; exact rf j); have HB2 := Lib.hid (below_next HB1.out hb2); obtain ⟨t0, t1, t2, t3, t4, t5, t6, t7, t8⟩ := HY1.out.next hb2; have g0 := (hb2.cell (p := ⟨b1, off1, none⟩) hbb1).trans d0; have g1 := (hb2.cell (p := ⟨b1, off1 + 1, none⟩) hbb1).trans d1; have g2 := (hb2.cell (p := ⟨b1, off1 + 2, none⟩) hbb1).trans d2; have g3 := (hb2.cell (p := ⟨b1, off1 + 3, none⟩) hbb1).trans d3; have g4 := (hb2.cell (p := ⟨b1, off1 + 4, none⟩) hbb1).trans d4; have g5 := (hb2.cell (p := ⟨b1, off1 + 5, none⟩) hbb1).trans d5; have g6 := (hb2.cell (p := ⟨b1, off1 + 6, none⟩) hbb1).trans d6; have g7 := (hb2.cell (p := ⟨b1, off1 + 7, none⟩) hbb1).trans d7; clear hb2; unfold wV))
  all_goals
    (try go_wp2_with fail)
    (try simp only [Exit.inBlock, Exit.then])
    refine bodyPost_ret (v := wV (timesW (r1, r2) dleast dmost)) ?_ rfl ⟨by rw [HW.out], by have hb := HB2.out; (repeat' (first | (with_reducible exact Below.refl _ _) | (with_reducible assumption) | (with_reducible refine Below.setCell ?_ (by simp <;> omega) _) | (with_reducible refine Below.alloc ?_ (by simp <;> omega) _) | (with_reducible refine Below.drew ?_)))⟩
    rw [results_cell_one rfl]
    unfold wV
    go_simp
end Go.Proofs.Ytbekjfoefjnidaa
