/- wide: walked. -/
import Derived.Test.YtbekjfoefjnidaaFsK
namespace Go.Proofs.Ytbekjfoefjnidaa
open Go.RowKit
set_option linter.unusedVariables false
def WideLaw (t : Tr) : Prop := ∀ (d : ND) (w : World), NodeAt w w.heap.size t d → (∀ x ∈ flatT t, rightE x = 0) → Calls Try.prog 33 #[d.agg] w fun e w' => e = .returned (wV (widT t)) ∧ Below w.heap.size w w'
theorem right_kids {t : Tr} (h : rightE t = 0) : kidsBad t = false := by
  unfold rightE at h
  split at h
  · cases h
  · split at h
    · cases h
    · rename_i h2
      cases hk : kidsBad t
      · rfl
      · rw [hk] at h2; simp at h2
theorem flat_kid {t k x : Tr} (hk : k ∈ t.kids) (hx : x ∈ flatT k) : x ∈ flatT t := by
  rw [flatT_eq]
  refine List.mem_cons_of_mem _ ?_
  have : ∀ ks : List Tr, k ∈ ks → x ∈ flatL ks := by
    intro ks
    induction ks with
    | nil => intro h; cases h
    | cons y ks ih2 =>
      intro h
      rw [flatL, List.mem_append]
      rcases List.mem_cons.1 h with e | e
      · subst e; exact .inl hx
      · exact .inr (ih2 e)
  exact this _ hk
def wideW (w : World) (d : ND) : World := (d.box w).alloc (.cells #[.int .i64 0, .int .i64 0] 59)
set_option maxRecDepth 100000 in
set_option maxHeartbeats 2000000 in
theorem wide_none (t : Tr) (h : widT t = (0, 0)) (hk : t.kind ≠ 2 ∧ t.kind ≠ 18 ∧ t.kind ≠ 11 ∧ t.kind ≠ 13 ∧ t.kind ≠ 12 ∧ t.kind ≠ 9 ∧ t.kind ≠ 10) : WideLaw t := by
  intro d w hn _
  obtain ⟨ds, hn⟩ := hn.of
  rw [h, ← hn.kind] at *
  obtain ⟨k1, k2, k3, k4, k5, k6, k7⟩ := hk
  clear hn h
  obtain ⟨dk, dsA, dsn, dsc, dkA, dkn, dkc, dnum, dleast, dmost, dway, dfold⟩ := d
  unfold ND.agg wV
  simp only at k1 k2 k3 k4 k5 k6 k7 ⊢
  go_enter Try.func33, Try.ntmps33
  go_wp2
  (try simp only [Exit.inBlock, Exit.then])
  refine bodyPost_ret (v := .agg #[.int .i64 0, .int .i64 0]) ?_ rfl ⟨rfl, by (repeat' (first | (with_reducible exact Below.refl _ _) | (with_reducible assumption) | (with_reducible refine Below.setCell ?_ (by simp <;> omega) _) | (with_reducible refine Below.alloc ?_ (by simp <;> omega) _) | (with_reducible refine Below.drew ?_)))⟩
  rw [results_cell_one rfl]
  go_simp
set_option maxRecDepth 100000 in
set_option maxHeartbeats 2000000 in
theorem wide_set (t : Tr) (h : widT t = (1, 1)) (hk : t.kind = 2) : WideLaw t := by
  intro d w hn _
  obtain ⟨ds, hn⟩ := hn.of
  have hk := hn.kind.trans hk
  rw [h]
  clear hn h
  obtain ⟨dk, dsA, dsn, dsc, dkA, dkn, dkc, dnum, dleast, dmost, dway, dfold⟩ := d
  unfold ND.agg wV
  simp only at hk ⊢
  subst hk
  go_enter Try.func33, Try.ntmps33
  go_wp2
  (try simp only [Exit.inBlock, Exit.then])
  refine bodyPost_ret (v := .agg #[.int .i64 1, .int .i64 1]) ?_ rfl ⟨rfl, by (repeat' (first | (with_reducible exact Below.refl _ _) | (with_reducible assumption) | (with_reducible refine Below.setCell ?_ (by simp <;> omega) _) | (with_reducible refine Below.alloc ?_ (by simp <;> omega) _) | (with_reducible refine Below.drew ?_)))⟩
  rw [results_cell_one rfl]
  go_simp
set_option maxRecDepth 100000 in
set_option maxHeartbeats 2000000 in
theorem wide_again (t : Tr) (h : widT t = (0, -1)) (hk : t.kind = 18) : WideLaw t := by
  intro d w hn _
  obtain ⟨ds, hn⟩ := hn.of
  have hk := hn.kind.trans hk
  rw [h]
  clear hn h
  obtain ⟨dk, dsA, dsn, dsc, dkA, dkn, dkc, dnum, dleast, dmost, dway, dfold⟩ := d
  unfold ND.agg wV
  simp only at hk ⊢
  subst hk
  go_enter Try.func33, Try.ntmps33
  go_wp2
  (try simp only [Exit.inBlock, Exit.then])
  refine bodyPost_ret (v := .agg #[.int .i64 0, .int .i64 (-1)]) ?_ rfl ⟨rfl, by (repeat' (first | (with_reducible exact Below.refl _ _) | (with_reducible assumption) | (with_reducible refine Below.setCell ?_ (by simp <;> omega) _) | (with_reducible refine Below.alloc ?_ (by simp <;> omega) _) | (with_reducible refine Below.drew ?_)))⟩
  rw [results_cell_one rfl]
  go_simp
theorem res59' {w0 w1 : World} {g : Nat} (hb : Below (w0.alloc (.cells #[.int .i64 0, .int .i64 0] 59)).heap.size (w0.alloc (.cells #[.int .i64 0, .int .i64 0] 59)) w1) (hg : g = w0.heap.size) :
    (∀ j, w1.frozen? ⟨g, j, none⟩ = false) ∧ w1.cell? ⟨g, 0, none⟩ = some (.int .i64 0) ∧ w1.cell? ⟨g, 1, none⟩ = some (.int .i64 0) := by
  subst hg
  have h : w1.heap[w0.heap.size]? = some (.cells #[.int .i64 0, .int .i64 0] 59) := by
    rw [hb.block _ (by simp)]
    exact heap_alloc_new w0 _
  refine ⟨fun j => by unfold World.frozen?; rw [h]; rfl, ?_, ?_⟩ <;> (rw [cell_of_row w1 _ _ _ 59 (0, 0) h]; rfl)
theorem headD_map : ∀ (l : List Tr) (h : 0 < l.length), (l.map widT).headD (0, 0) = widT l[0]
  | [], h => by simp at h
  | _ :: _, _ => rfl
theorem wideW_below (w : World) (d : ND) : Below w.heap.size w (wideW w d) := by unfold wideW ND.box; go_grown
set_option maxRecDepth 100000 in
set_option maxHeartbeats 2000000 in
theorem wide_group (t : Tr) (ih : ∀ k ∈ t.kids, WideLaw k) (hk : t.kind = 11 ∨ t.kind = 13) : WideLaw t := by
  intro d w hn hr
  obtain ⟨ds, hn⟩ := hn.of
  have HB := Lib.hid (wideW_below w d)
  have HX := Lib.hid ((BoxN.new w d).next ((Below.refl _ _).alloc (Nat.le_refl _) (.cells #[.int .i64 0, .int .i64 0] 59)))
  have hone : t.kids.length = 1 := by
    have h := right_kids (hr t (by rw [flatT_eq]; simp))
    unfold kidsBad at h
    rw [if_neg (by omega), if_pos (by omega)] at h
    simpa using h
  have hkn : d.kn = 1 := by have := hn.knum.1; omega
  have hdl : 0 < ds.length := by have := hn.knum.2; omega
  have HKID := Lib.hid (hn.each.at 0 (by omega) hdl)
  have HRK := Lib.hid (fun x (hx : x ∈ flatT (t.kids[0]'(by omega))) => hr x (flat_kid (List.getElem_mem (by omega)) hx))
  have HIH := Lib.hid (ih _ (List.getElem_mem (show 0 < t.kids.length by omega)))
  have HW := Lib.hid (show widT t = widT (t.kids[0]'(by omega)) by
    rw [widT_eq]
    unfold widK
    rw [if_neg (by omega), if_neg (by omega), if_pos hk, widL_map]
    exact headD_map _ _)
  obtain ⟨b1, off1, hl1, hA, hb1, c0, c1, c2, c3, c4, c5, c6, c7⟩ := (hn.kids.below (wideW_below w d) (Nat.le_refl _)).node_at (show 0 < d.kn by omega)
  have C := Lib.hid (HIH.out ds[0] (wideW w d) (NodeAt.map (fun r => (r.below (wideW_below w d) (Nat.le_refl _)).more (wideW_below w d).size) _ _ HKID.out) HRK.out)
  have EK := Lib.hid hn.kind
  have hkc := hn.kc1
  rw [← hn.kind] at hk
  obtain ⟨e, he⟩ : ∃ x, x = ds[0] := ⟨_, rfl⟩
  rw [← he] at c0 c1 c2 c3 c4 c5 c6 c7 C
  obtain ⟨r, hrr⟩ : ∃ x, x = widT (t.kids[0]'(by omega)) := ⟨_, rfl⟩
  rw [← hrr] at HW C
  clear he hn hr ih HKID HRK HIH hrr EK hdl hl1 hone
  obtain ⟨dk, dsA, dsn, dsc, dkA, dkn, dkc, dnum, dleast, dmost, dway, dfold⟩ := d
  simp only at hA hk hkn hkc
  subst hkn
  have HAA := Lib.hid hA
  subst hA
  unfold ND.agg at C ⊢
  unfold wideW ND.box at *
  simp only at C HB HX c0 c1 c2 c3 c4 c5 c6 c7 ⊢
  simp only [Nat.zero_mul, Nat.add_zero] at c0 c1 c2 c3 c4 c5 c6 c7
  obtain ⟨r1, r2⟩ := r
  have i0 : (0 : Int) < ((1 : Nat) : Int) := by decide
  go_enter Try.func33, Try.ntmps33
  rcases hk with rfl | rfl
  all_goals
    go_wp2_with (go_at_call 33; refine C.out.mono ?_; rintro en w1 ⟨rfl, hb⟩; obtain ⟨rf, r0, r1'⟩ := res59' (g := w.heap.size + 1) hb (by simp); have HB1 := Lib.hid (below_next HB.out hb); clear hb; unfold wV)
    (try simp only [Exit.inBlock, Exit.then])
    refine bodyPost_ret (v := wV (r1, r2)) ?_ rfl ⟨by rw [HW.out], by have hb := HB1.out; (repeat' (first | (with_reducible exact Below.refl _ _) | (with_reducible assumption) | (with_reducible refine Below.setCell ?_ (by simp <;> omega) _) | (with_reducible refine Below.alloc ?_ (by simp <;> omega) _) | (with_reducible refine Below.drew ?_)))⟩
    rw [results_cell_one rfl]
    unfold wV
    go_simp
end Go.Proofs.Ytbekjfoefjnidaa
