/- wide: a row. -/
import Derived.Test.YtbekjfoefjnidaaFsM
namespace Go.Proofs.Ytbekjfoefjnidaa
open Go.RowKit
set_option linter.unusedVariables false
/-- a width in its block -/
structure TwoAt (w : World) (b : Nat) (p : Int × Int) : Prop where
  hi : b < w.heap.size
  fz : ∀ j, w.frozen? ⟨b, j, none⟩ = false
  c0 : w.cell? ⟨b, 0, none⟩ = some (.int .i64 p.1)
  c1 : w.cell? ⟨b, 1, none⟩ = some (.int .i64 p.2)
theorem TwoAt.next {w w' : World} {b : Nat} {p : Int × Int} (h : TwoAt w b p) (hb : Below w.heap.size w w') : TwoAt w' b p :=
  ⟨Nat.lt_of_lt_of_le h.hi hb.size, fun j => by rw [hb.frozen (p := ⟨b, j, none⟩) h.hi]; exact h.fz j, by rw [hb.cell (p := ⟨b, 0, none⟩) h.hi]; exact h.c0, by rw [hb.cell (p := ⟨b, 1, none⟩) h.hi]; exact h.c1⟩
theorem TwoAt.new (w : World) (a b : Int) : TwoAt (w.alloc (.cells #[.int .i64 a, .int .i64 b] 59)) w.heap.size (a, b) := by
  have h := heap_alloc_new w (.cells #[.int .i64 a, .int .i64 b] 59)
  refine ⟨by simp, fun j => by unfold World.frozen?; rw [h]; rfl, ?_, ?_⟩ <;> (rw [cell_of_row _ _ _ _ 59 (0, 0) h]; rfl)
theorem TwoAt.set {w : World} {b : Nat} {p : Int × Int} (h : TwoAt w b p) (x y : Int) : TwoAt ((w.setCell ⟨b, 0, none⟩ (.int .i64 x)).setCell ⟨b, 1, none⟩ (.int .i64 y)) b (x, y) := by
  have h1 : (w.setCell ⟨b, 0, none⟩ (.int .i64 x)).cell? ⟨b, 1, none⟩ = some (.int .i64 p.2) := (World.cell?_setCell_other _ _ _ _ (by simp)).trans h.c1
  exact ⟨by simpa using h.hi, fun j => by rw [World.frozen?_setCell, World.frozen?_setCell]; exact h.fz j, by rw [World.cell?_setCell_other _ _ _ _ (show (⟨b, 1, none⟩ : Addr) ≠ ⟨b, 0, none⟩ by simp)]; exact World.cell?_setCell_same _ _ _ h.c0, World.cell?_setCell_same _ _ _ h1⟩
theorem TwoAt.other {w : World} {b c : Nat} {p : Int × Int} (h : TwoAt w b p) (hne : c ≠ b) (x y : Int) : TwoAt ((w.setCell ⟨c, 0, none⟩ (.int .i64 x)).setCell ⟨c, 1, none⟩ (.int .i64 y)) b p := by
  have hn : ∀ j k : Nat, (⟨c, k, none⟩ : Addr) ≠ ⟨b, j, none⟩ := fun j k e => hne (congrArg Addr.block e)
  refine ⟨by simpa using h.hi, fun j => by rw [World.frozen?_setCell, World.frozen?_setCell]; exact h.fz j, ?_, ?_⟩
  · rw [World.cell?_setCell_other _ _ _ _ (hn 0 1), World.cell?_setCell_other _ _ _ _ (hn 0 0)]; exact h.c0
  · rw [World.cell?_setCell_other _ _ _ _ (hn 1 1), World.cell?_setCell_other _ _ _ _ (hn 1 0)]; exact h.c1
def rowW (w : World) (d : ND) : World := (wideW w d).alloc (.cells #[.int .i64 0, .int .i64 0] 59)
theorem rowW_below (w : World) (d : ND) : Below w.heap.size w (rowW w d) := by unfold rowW wideW ND.box; go_grown
theorem rowW_acc (w : World) (d : ND) : TwoAt (rowW w d) (w.heap.size + 1 + 1) (0, 0) := by
  have h := TwoAt.new (wideW w d) 0 0
  rwa [show (wideW w d).heap.size = w.heap.size + 1 + 1 by unfold wideW ND.box; simp] at h
theorem rowW_res (w : World) (d : ND) : TwoAt (rowW w d) (w.heap.size + 1) (0, 0) := by
  have h := (TwoAt.new (d.box w) 0 0).next (w' := rowW w d) (by unfold rowW wideW; go_grown)
  rwa [ND.box_size] at h
theorem widL_drop (ks : List Tr) (k : Nat) (h : k < ks.length) (f : Int × Int → Int × Int → Int × Int) (s : Int × Int) : (widL (ks.drop k)).foldl f s = (widL (ks.drop (k + 1))).foldl f (f s (widT ks[k])) := by
  rw [List.drop_eq_getElem_cons h, widL]; rfl
set_option maxRecDepth 100000 in
set_option maxHeartbeats 4000000 in
theorem wide_row (t : Tr) (ih : ∀ k ∈ t.kids, WideLaw k) (hk : t.kind = 9) : WideLaw t := by
  intro d w hn hr
  obtain ⟨ds, hn⟩ := hn.of
  have HN := Lib.hid hn
  have HK := Lib.hid hn.knum
  have HB := Lib.hid (rowW_below w d)
  have HACC := Lib.hid (rowW_acc w d)
  have HRES := Lib.hid (rowW_res w d)
  have HRK := Lib.hid (fun (k : Tr) (hk : k ∈ t.kids) x (hx : x ∈ flatT k) => hr x (flat_kid hk hx))
  have HIH := Lib.hid ih
  have HW := Lib.hid (show widT t = (widL t.kids).foldl addW (0, 0) by rw [widT_eq]; unfold widK; rw [if_neg (by omega), if_neg (by omega), if_neg (by omega), if_neg (by omega), if_pos hk])
  have hkc := hn.kc1
  have hkm := hn.kc2
  unfold maxLen at hkm
  rw [← hn.kind] at hk
  clear hn hr ih
  obtain ⟨dk, dsA, dsn, dsc, dkA, dkn, dkc, dnum, dleast, dmost, dway, dfold⟩ := d
  simp only at hk hkc hkm HK
  subst hk
  unfold ND.agg
  unfold rowW wideW ND.box at HB HACC HRES
  simp only at HB HACC HRES ⊢
  go_enter Try.func33, Try.ntmps33
  go_wp2_with fail
  generalize hW0 : ((w.alloc (.cells #[.int .i64 9, .slice dsA dsn dsc, .slice dkA dkn dkc, .int .i64 dnum, .int .i64 dleast, .int .i64 dmost, .int .i64 dway, .bool dfold] 25)).alloc (.cells #[.int .i64 0, .int .i64 0] 59)).alloc (.cells #[.int .i64 0, .int .i64 0] 59) = W0 at *
  clear hW0
  go_loopw [42] (fun i wr => ∃ (k : Nat) (s : Int × Int), k ≤ dkn ∧ i = .int .i64 k ∧ Hid ((widL (t.kids.drop k)).foldl addW s = (widL t.kids).foldl addW (0, 0)) ∧ Hid (okW s) ∧ Hid (TwoAt wr (w.heap.size + 1 + 1) s) ∧ Hid (TwoAt wr (w.heap.size + 1) (0, 0)) ∧ Hid (Below w.heap.size w wr)) (fun i _ => dkn - (intOf i).toNat)
  case atStart => exact ⟨0, (0, 0), Nat.zero_le _, rfl, Lib.hid rfl, Lib.hid (by unfold okW; simp), HACC, HRES, HB⟩
  case round =>
    obtain ⟨k, s, hkk, rfl, HS, HOK, HA, HR, HBr⟩ := hrel
    by_cases hlt : k < dkn
    · obtain ⟨b1, off1, hl1, hAA, hb1, c0, c1, c2, c3, c4, c5, c6, c7⟩ := (HN.out.kids.below HBr.out (Nat.le_refl _)).node_at hlt
      have hkl : k < t.kids.length := by rw [HK.out.1]; exact hlt
      have HKID := Lib.hid (HN.out.each.at k hkl hl1)
      have HD := Lib.hid (widL_drop t.kids k hkl addW s)
      have HRI := Lib.hid (HRK.out _ (List.getElem_mem hkl))
      have HI := Lib.hid (HIH.out _ (List.getElem_mem hkl))
      obtain ⟨kid, hkid⟩ : ∃ x, x = t.kids[k] := ⟨_, rfl⟩
      rw [← hkid] at HKID HD HRI HI
      clear hkid
      obtain ⟨e, he⟩ : ∃ x, x = ds[k] := ⟨_, rfl⟩
      rw [← he] at c0 c1 c2 c3 c4 c5 c6 c7 HKID
      clear he
      simp only at hAA
      have HAAA := Lib.hid hAA
      subst hAA
      have k2 : (k : Int) < (dkn : Int) := by omega
      have HBX := Lib.hid (HBr.out.trans ((ND.box_below wr e).mono HBr.out.size))
      have HBN := Lib.hid (ND.box_below wr e)
      have HXE := Lib.hid (BoxN.new wr e)
      have C := Lib.hid (HI.out e (e.box wr).drew (NodeAt.map (fun r => (r.below HBX.out.drew (Nat.le_refl _)).more HBX.out.drew.size) _ _ HKID.out) HRI.out)
      have HOKK := Lib.hid (widT_ok kid HRI.out)
      obtain ⟨r, hrr⟩ : ∃ x, x = widT kid := ⟨_, rfl⟩
      rw [← hrr] at C HOKK HD
      clear hrr
      unfold ND.agg at C
      unfold ND.box at C HBX HBN HXE
      obtain ⟨r1, r2⟩ := r
      obtain ⟨s1, s2⟩ := s
      have HA0 := Lib.hid (HA.out.next HBN.out)
      have HR0 := Lib.hid (HR.out.next HBN.out)
      obtain ⟨a0, af, a1, a2⟩ := HA0.out
      obtain ⟨x0, x1, x2, x3, x4, x5, x6, x7, x8⟩ := HXE.out
      go_upto_region 16 with fail
      go_region_with (first
        | (go_at_call 33; refine C.out.mono ?_; rintro en w1 ⟨rfl, hb⟩; have HA1 := Lib.hid (HA0.out.next ((Below.refl _ _).drew.trans hb)); have HR1 := Lib.hid (HR0.out.next ((Below.refl _ _).drew.trans hb)); have HB1 := Lib.hid (below_next HBX.out.drew hb); obtain ⟨y0, yf, y1, y2⟩ := HA1.out; clear hb; unfold wV)
        | (go_at_call 42; refine (add42 (s1, s2) (r1, r2) _ HOK.out HOKK.out).mono ?_; rintro en w2 ⟨rfl, hb2⟩; have HA2 := Lib.hid (HA1.out.next hb2); have HR2 := Lib.hid (HR1.out.next hb2); have HB2 := Lib.hid (below_next HB1.out hb2); obtain ⟨z0, zf, z1, z2⟩ := HA2.out; clear hb2; unfold wV))
      all_goals
        go_wp2_with fail
        go_roundw
        case rel => exact ⟨k + 1, addW (s1, s2) (r1, r2), by omega, by go_num, Lib.hid (HD.out.symm.trans HS.out), Lib.hid (okW_add HOK.out HOKK.out), Lib.hid (HA2.out.set _ _), Lib.hid (HR2.out.other (by omega) _ _), Lib.hid ((HB2.out.setCell (p := ⟨w.heap.size + 1 + 1, 0, none⟩) (by simp; omega) _).setCell (p := ⟨w.heap.size + 1 + 1, 1, none⟩) (by simp; omega) _)⟩
        case measure => simp [intOf]; omega
    · obtain rfl : k = dkn := by omega
      have HZ := Lib.hid (show t.kids.drop k = [] from List.drop_of_length_le (by rw [HK.out.1]; exact Nat.le_refl _))
      have HF := Lib.hid (show widT t = s by rw [HW.out, ← HS.out, HZ.out]; rfl)
      obtain ⟨s1, s2⟩ := s
      obtain ⟨a0, af, a1, a2⟩ := HA.out
      obtain ⟨q0, qf, q1, q2⟩ := HR.out
      go_wp2_with fail
      (try simp only [Exit.inBlock, Exit.then])
      refine bodyPost_ret (v := wV (s1, s2)) ?_ rfl ⟨by rw [HF.out], by have hb := HBr.out; (repeat' (first | (with_reducible exact Below.refl _ _) | (with_reducible assumption) | (with_reducible refine Below.setCell ?_ (by simp <;> omega) _) | (with_reducible refine Below.alloc ?_ (by simp <;> omega) _) | (with_reducible refine Below.drew ?_)))⟩
      rw [results_cell_one rfl]
      unfold wV
      go_simp
end Go.Proofs.Ytbekjfoefjnidaa
