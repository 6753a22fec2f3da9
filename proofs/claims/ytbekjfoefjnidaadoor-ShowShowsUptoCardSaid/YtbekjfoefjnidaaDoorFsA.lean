/- many, Nodes of the program: walked. -/
import Derived.Test.YtbekjfoefjnidaaDoorNode
namespace Go.Proofs.YtbekjfoefjnidaaDoor
open Go.RowKit
set_option linter.unusedVariables false
theorem Rds.next {w w' : World} {size n : Nat} {A : Option Addr} {xs : List Value} (h : Rds w w.heap.size size A n xs) (hb : Below w.heap.size w w') : Rds w' w'.heap.size size A n xs :=
  (h.below hb (Nat.le_refl _)).more hb.size
theorem below_next {W w w' : World} (h : Below W.heap.size W w) (hb : Below w.heap.size w w') : Below W.heap.size W w' := h.trans (hb.mono h.size)
/-- a node as a value -/
def ND.agg (d : ND) : Value := .agg #[.int .i64 d.kind, .slice d.sA d.sn d.sc, .slice d.kA d.kn d.kc, .int .i64 d.num, .int .i64 d.least, .int .i64 d.most, .int .i64 d.way, .bool d.fold]
/-- a node in a box -/
def ND.box (w : World) (d : ND) : World := w.alloc (.cells #[.int .i64 d.kind, .slice d.sA d.sn d.sc, .slice d.kA d.kn d.kc, .int .i64 d.num, .int .i64 d.least, .int .i64 d.most, .int .i64 d.way, .bool d.fold] 25)
theorem ND.box_below (w : World) (d : ND) : Below w.heap.size w (d.box w) := by unfold ND.box; go_grown
theorem ND.box_size (w : World) (d : ND) : (d.box w).heap.size = w.heap.size + 1 := by unfold ND.box; simp
/-- what a box holds -/
def BoxN (w : World) (b : Nat) (d : ND) : Prop := b < w.heap.size ∧
  w.cell? ⟨b, 0, none⟩ = some (.int .i64 d.kind) ∧ w.cell? ⟨b, 1, none⟩ = some (.slice d.sA d.sn d.sc) ∧ w.cell? ⟨b, 2, none⟩ = some (.slice d.kA d.kn d.kc) ∧ w.cell? ⟨b, 3, none⟩ = some (.int .i64 d.num) ∧
  w.cell? ⟨b, 4, none⟩ = some (.int .i64 d.least) ∧ w.cell? ⟨b, 5, none⟩ = some (.int .i64 d.most) ∧ w.cell? ⟨b, 6, none⟩ = some (.int .i64 d.way) ∧ w.cell? ⟨b, 7, none⟩ = some (.bool d.fold)
theorem BoxN.new (w : World) (d : ND) : BoxN (d.box w) w.heap.size d := by
  unfold BoxN ND.box
  refine ⟨by simp, ?_, ?_, ?_, ?_, ?_, ?_, ?_, ?_⟩ <;> (rw [cell_of_row _ _ _ _ 25 (0, 0) (heap_alloc_new w _)]; rfl)
theorem BoxN.next {w w' : World} {b : Nat} {d : ND} (h : BoxN w b d) (hb : Below w.heap.size w w') : BoxN w' b d := by
  obtain ⟨h0, h1, h2, h3, h4, h5, h6, h7, h8⟩ := h
  have hc := fun j => hb.cell (p := ⟨b, j, none⟩) h0
  exact ⟨Nat.lt_of_lt_of_le h0 hb.size, by rw [hc]; exact h1, by rw [hc]; exact h2, by rw [hc]; exact h3, by rw [hc]; exact h4, by rw [hc]; exact h5, by rw [hc]; exact h6, by rw [hc]; exact h7, by rw [hc]; exact h8⟩
theorem manyL_drop (ks : List Tr) (k : Nat) (h : k < ks.length) (left deep out : Int) : manyL (ks.drop k) left deep out = if out > left then out else manyL (ks.drop (k + 1)) left deep (out + manyT ks[k] (left - out) (deep + 1)) := by
  rw [List.drop_eq_getElem_cons h, manyL]
set_option maxRecDepth 100000 in
set_option maxHeartbeats 2000000 in
theorem many36 (t : Tr) : ∀ (left deep : Int) (d : ND) (w : World), NodeAt w w.heap.size t d → 0 ≤ left → left ≤ 1000 → 0 ≤ deep → deep ≤ 300 →
    Calls Tryd.prog 14 #[d.agg, .int .i64 left, .int .i64 deep] w fun e w' => e = .returned (.int .i64 (manyT t left deep)) ∧ Below w.heap.size w w' := by
  refine tree_ind (P := fun t => ∀ (left deep : Int) (d : ND) (w : World), NodeAt w w.heap.size t d → 0 ≤ left → left ≤ 1000 → 0 ≤ deep → deep ≤ 300 →
    Calls Tryd.prog 14 #[d.agg, .int .i64 left, .int .i64 deep] w fun e w' => e = .returned (.int .i64 (manyT t left deep)) ∧ Below w.heap.size w w') (fun t ih => ?_) t
  intro left deep d w hn l0 l1 d0 d1
  obtain ⟨ds, hn⟩ := hn.of
  have HN := Lib.hid hn
  have HK := Lib.hid hn.knum
  have IH := Lib.hid ih
  have HEQ := Lib.hid (manyT_eq t left deep)
  have HB0 := Lib.hid (ND.box_below w d)
  have HX0 := Lib.hid (BoxN.new w d)
  have hkc := hn.kc1
  have hkm := hn.kc2
  unfold maxLen at hkm
  clear hn ih
  obtain ⟨dk, dsA, dsn, dsc, dkA, dkn, dkc, dnum, dleast, dmost, dway, dfold⟩ := d
  unfold ND.agg
  simp only at hkc hkm HK
  unfold ND.box at HB0 HX0
  simp only at HB0 HX0
  by_cases hd : deep > 200
  · have HM := Lib.hid (show manyT t left deep = left + 1 by rw [HEQ.out, if_pos hd])
    rw [HM.out]
    go_enter Tryd.func14, Tryd.ntmps14
    go_wp2
    go_ret
    exact ⟨rfl, HB0.out⟩
  · have HM := Lib.hid (show manyT t left deep = manyL t.kids left deep 1 by rw [HEQ.out, if_neg hd])
    have hd2 : ¬ 200 < deep := by omega
    rw [HM.out]
    go_enter Tryd.func14, Tryd.ntmps14
    go_wp2_with fail
    generalize hW0 : w.alloc (.cells #[.int .i64 dk, .slice dsA dsn dsc, .slice dkA dkn dkc, .int .i64 dnum, .int .i64 dleast, .int .i64 dmost, .int .i64 dway, .bool dfold] 25) = W0 at *
    go_loopw [7, 17] (fun v i wr => ∃ (k : Nat) (o : Int), k ≤ dkn ∧ i = .int .i64 k ∧ v = .int .i64 o ∧ 1 ≤ o ∧ o ≤ left + 1 ∧ Hid (manyL (t.kids.drop k) left deep o = manyL t.kids left deep 1) ∧ Below w.heap.size w wr) (fun _ i _ => dkn - (intOf i).toNat)
    case atStart => exact ⟨0, 1, Nat.zero_le _, rfl, rfl, by decide, by omega, Lib.hid rfl, HB0.out⟩
    case round =>
      obtain ⟨k, o, hk, rfl, rfl, o1, o2, HMM, hB⟩ := hrel
      by_cases hlt : k < dkn
      · obtain ⟨b1, off1, hl1, hA, hb1, c0, c1, c2, c3, c4, c5, c6, c7⟩ := (HN.out.kids.below hB (Nat.le_refl _)).node_at hlt
        have hkl : k < t.kids.length := by rw [HK.out.1]; exact hlt
        have HKID := Lib.hid (NodeAt.map (fun h => (h.below hB (Nat.le_refl _)).more hB.size) _ _ (HN.out.each.at k hkl hl1))
        have HD := Lib.hid (manyL_drop t.kids k hkl left deep o)
        have HIH := Lib.hid (IH.out _ (List.getElem_mem hkl))
        have HLAW := Lib.hid (manyT_law t.kids[k])
        obtain ⟨kid, hkid⟩ : ∃ x, x = t.kids[k] := ⟨_, rfl⟩
        rw [← hkid] at HKID HD HIH HLAW
        clear hkid
        obtain ⟨e, he⟩ : ∃ x, x = ds[k] := ⟨_, rfl⟩
        rw [← he] at c0 c1 c2 c3 c4 c5 c6 c7 HKID
        clear he
        simp only at hA
        have HAA := Lib.hid hA
        subst hA
        have k2 : (k : Int) < (dkn : Int) := by omega
        have hsz := hB.size
        by_cases ho : o > left
        · have HR := Lib.hid (show manyL t.kids left deep 1 = o by rw [← HMM.out, HD.out, if_pos ho])
          have HB1 := Lib.hid (hB.trans ((ND.box_below wr e).mono hsz))
          unfold ND.box at HB1
          have ho2 : left < o := ho
          go_wp2
          go_ret
          first | exact ⟨congrArg (fun x => Ending.returned (Value.int IntKind.i64 x)) HR.out.symm, HB1.out⟩ | (rw [HR.out]; exact ⟨rfl, HB1.out⟩)
        · have HR := Lib.hid (show manyL (t.kids.drop k) left deep o = manyL (t.kids.drop (k + 1)) left deep (o + manyT kid (left - o) (deep + 1)) by rw [HD.out, if_neg ho])
          have hb3 := HLAW.out (left - o) (deep + 1) |>.2.2 (by omega)
          have ho2 : ¬ left < o := ho
          have HBX := Lib.hid (ND.box_below wr e)
          have HC := Lib.hid (HIH.out (left - o) (deep + 1) e (e.box wr) (HKID.out.next (ND.box_below wr e)) (by omega) (by omega) (by omega) (by omega))
          unfold ND.box at HBX HC
          unfold ND.agg at HC
          generalize manyT kid (left - o) (deep + 1) = r at *
          go_wp2_with fail
          refine HC.out.mono ?_
          rintro en w2 ⟨rfl, hb2⟩
          have HB2 := Lib.hid (hB.trans ((below_next HBX.out hb2).mono hsz))
          go_wp2
          go_roundw
          case rel => exact ⟨k + 1, o + r, by omega, by go_num, rfl, by omega, by omega, Lib.hid (HR.out.symm.trans HMM.out), HB2.out⟩
          case measure => simp [intOf]; omega
      · obtain rfl : k = dkn := by omega
        have HR := Lib.hid (show manyL t.kids left deep 1 = o by rw [← HMM.out, List.drop_of_length_le (by rw [HK.out.1]; exact Nat.le_refl _)]; rfl)
        go_wp2
        go_ret
        first | exact ⟨congrArg (fun x => Ending.returned (Value.int IntKind.i64 x)) HR.out.symm, hB⟩ | (rw [HR.out]; exact ⟨rfl, hB⟩)
set_option maxRecDepth 100000 in
set_option maxHeartbeats 2000000 in
theorem nodes31 (t : Tr) (d : ND) (w : World) (hn : NodeAt w w.heap.size t d) :
    Calls Tryd.prog 11 #[d.agg] w fun e w' => e = .returned (if tooG t = true then .tuple #[.int .i64 0, .int .i64 2] else .tuple #[.int .i64 (sizeT t : Nat), .int .i64 0]) ∧ Below w.heap.size w w' := by
  have HB0 := Lib.hid (ND.box_below w d)
  have C := Lib.hid (many36 t 1000 0 d (d.box w) (hn.next (ND.box_below w d)) (by decide) (by decide) (by decide) (by decide))
  have HL := Lib.hid (manyT_law t 1000 0)
  clear hn
  obtain ⟨dk, dsA, dsn, dsc, dkA, dkn, dkc, dnum, dleast, dmost, dway, dfold⟩ := d
  unfold ND.agg at *
  unfold ND.box at *
  simp only at HB0 C
  cases hg : tooG t
  · have HM := Lib.hid (HL.out.1 ((fine_iff t).2 hg))
    have hle : (sizeT t : Int) ≤ 1000 := ((fine_iff t).2 hg).1
    rw [HM.out] at C
    clear hg
    go_enter Tryd.func11, Tryd.ntmps11
    go_wp2_with fail
    refine C.out.mono ?_
    rintro e w1 ⟨rfl, hb⟩
    have HB1 := Lib.hid (below_next HB0.out hb)
    clear hb
    have hle2 : ¬ (1000 : Int) < (sizeT t : Int) := by omega
    go_wp2
    go_ret2
    exact ⟨rfl, HB1.out⟩
  · have HM := HL.out.2.1 (fun h => by rw [(fine_iff t).1 h] at hg; cases hg)
    generalize manyT t 1000 0 = m at *
    clear hg
    go_enter Tryd.func11, Tryd.ntmps11
    go_wp2_with fail
    refine C.out.mono ?_
    rintro e w1 ⟨rfl, hb⟩
    have HB1 := Lib.hid (below_next HB0.out hb)
    clear hb
    go_wp2
    go_ret2
    exact ⟨rfl, HB1.out⟩
end Go.Proofs.YtbekjfoefjnidaaDoor
