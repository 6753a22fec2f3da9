/-
  node of show: kinds without a loop: walked. node of show: kinds without a loop: walked. What a right pattern is like, plain; node of show in general. Show in general: walked.
-/
import Derived.Test.YtbekjfoefjnidaaDoorShG2
import Derived.Test.YtbekjfoefjnidaaDoorShE
import Derived.Maps.OwnSet
import Derived.Maps.Views
namespace Go.Proofs.YtbekjfoefjnidaaDoor
open Go.RowKit Go.Maps
set_option linter.unusedVariables false
theorem IsWr.names {b g : Nat} {bs : List Value} {w : World} (h : IsWr b g bs w) : w.cell? ⟨b, 2, none⟩ = some (.map (some g)) := by
  rcases h with ⟨v, hb, _⟩ | ⟨v, hb, _⟩ <;> (rw [Lib.cell_of_heap hb]; rfl)
/-- texts written, from a row of texts just laid -/
theorem putT (b g : Nat) (bs : List Value) (l : List (List UInt8)) (w : World) (h : IsWr b g bs w) (hlen : bs.length + l.flatten.length ≤ 140737488355328) (hll : l.length ≤ 1000000 := by decide) :
    Calls Tryd.prog 33 #[.pointer (some ⟨b, 0, none⟩), .slice (some ⟨w.heap.size, 0, none⟩) l.length l.length] (w.alloc (.cells (l.map fun x => Value.string ⟨x.toArray⟩).toArray 9)) fun e w' => e = .returned (.tuple #[]) ∧ IsWr b g (bs ++ Lib.byteCells l.flatten) w' ∧ Wrote b w w' := by
  have C := putN b g bs (l.map fun x => ⟨x.toArray⟩) w h (by rw [catC_mk, byteCells_len]; exact hlen) (by rw [List.length_map]; exact hll)
  rw [catC_mk, List.length_map, List.map_map] at C
  exact C
theorem node_leaf (b g : Nat) (nm : Int → List UInt8) (t : Tr) (hk : 3 ≤ t.kind ∧ t.kind ≤ 8) : Law21 b g nm t := by
  intro bs d w h hn hs hlen
  obtain ⟨ds, hd⟩ := hn.of
  have HT : showT nm t = leafT d.kind := by rw [showT_eq]; unfold showK; rw [if_neg (by omega), if_neg (by omega), if_neg (by omega), if_neg (by omega), if_neg (by omega), if_neg (by omega), if_neg (by omega), hd.kind]
  rw [HT] at hlen ⊢
  exact leaf21 b g bs d w h (by rw [hd.kind]; omega) (by omega)
set_option maxRecDepth 100000 in
set_option maxHeartbeats 8000000 in
theorem node_grp_13 (b g : Nat) (nm : Int → List UInt8) (t : Tr) (ih : ∀ k ∈ t.kids, Law21 b g nm k) (hk : t.kind = 13) (h1k : t.kids.length = 1) (hnum : 0 ≤ t.num ∧ t.num ≤ 20) : Law21 b g nm t := by
  intro bs d w h hn hs hlen
  have hlt := h.lt
  have HB0 := Lib.hid (ND.box_below w d)
  have HX0 := Lib.hid (BoxN.new w d)
  have hbs := ND.box_size w d
  have HI := Lib.hid (h.next HB0.out)
  have HS := Lib.hid (hs.below HB0.out (Nat.le_of_lt hlt))
  have HNX := Lib.hid (hn.under (HB0.out.mono (Nat.le_of_lt hlt)))
  have HW0 := Lib.hid (Wrote.of (b := b) HB0.out (Nat.le_of_lt hlt))
  have HH0 := Lib.hid (box_heap w d)
  have hbne : w.heap.size ≠ b := by omega
  obtain ⟨ds, hd⟩ := hn.of
  have HD := Lib.hid hd
  obtain ⟨W, hW⟩ : ∃ W, W = d.box w := ⟨_, rfl⟩
  have hkind := hd.kind
  have hmm := @run_makeMap Tryd.prog
  obtain ⟨k0, d0, hkids, hn0, hkn, hrd⟩ := node_kid0 HNX.out h1k
  have HT := Lib.hid (show showT nm t = [40, 63, 62] ++ showT nm k0 ++ [41] by rw [showT_eq]; unfold showK; rw [if_neg (by omega), if_neg (by omega), if_neg (by omega), if_neg (by omega), if_neg (by omega), if_neg (by omega), if_pos (by omega), hkids, hk]; rfl)
  rw [HT.out] at hlen ⊢
  simp only [List.length_append, List.length_cons, List.length_nil] at hlen
  rw [← hd.num] at hnum
  have HM0 := Lib.hid (World.ownsMap_made (H := Unit) (d.box w) Tryd.prog 3 ps)
  obtain ⟨w1, r1, o1, g1⟩ := insS HM0.out (by unfold maxLen; omega) 13 (by decide) ⟨#[63, 62]⟩ (by unfold maxLen; decide)
  obtain ⟨w2, r2, o2, g2⟩ := insS o1 (by unfold maxLen; omega) 14 (by decide) ⟨#[63, 61]⟩ (by unfold maxLen; decide)
  obtain ⟨w3, r3, o3, g3⟩ := insS o2 (by unfold maxLen; omega) 15 (by decide) ⟨#[63, 33]⟩ (by unfold maxLen; decide)
  obtain ⟨w4, r4, o4, g4⟩ := insS o3 (by unfold maxLen; omega) 16 (by decide) ⟨#[63, 60, 61]⟩ (by unfold maxLen; decide)
  obtain ⟨w5, r5, o5, g5⟩ := insS o4 (by unfold maxLen; omega) 17 (by decide) ⟨#[63, 60, 33]⟩ (by unfold maxLen; decide)
  have hlk := lookS o5 13 (by decide) (l := [63, 62]) rfl
  have s0 : ((d.box w).alloc (.map #[] 0)).heap.size = (d.box w).heap.size + 1 := by simp
  have B1 : Below (d.box w).heap.size (d.box w) w1 := Below.grown ((Below.refl _ _).alloc (Nat.le_refl _) _) g1 (by omega) (fun k hk => by cases hk; exact Nat.le_refl _)
  have B2 : Below (d.box w).heap.size (d.box w) w2 := B1.grown g2 B1.size (fun k hk => by cases hk; exact Nat.le_refl _)
  have B3 : Below (d.box w).heap.size (d.box w) w3 := B2.grown g3 B2.size (fun k hk => by cases hk; exact Nat.le_refl _)
  have B4 : Below (d.box w).heap.size (d.box w) w4 := B3.grown g4 B3.size (fun k hk => by cases hk; exact Nat.le_refl _)
  have B5 : Below (d.box w).heap.size (d.box w) w5 := B4.grown g5 B4.size (fun k hk => by cases hk; exact Nat.le_refl _)
  have HB5 := Lib.hid B5
  have HX5 := Lib.hid (HX0.out.next B5)
  have HWl := Lib.hid (show b ≤ (d.box w).heap.size by rw [hbs]; omega)
  have HH5 := Lib.hid (show ∃ cs fr, w5.heap[w.heap.size]? = some (.cells cs 25 fr) by
    obtain ⟨cs, fr, e⟩ := HH0.out
    exact ⟨cs, fr, by rw [B5.block _ (by rw [hbs]; omega)]; exact e⟩)
  have HI5 := Lib.hid (HI.out.next B5)
  have CP1 := Lib.hid (putT b g bs [[40], [63, 62]] w5 HI5.out (by show _ + 3 ≤ _; omega))
  have HW5 := Lib.hid (HW0.out.trans (Wrote.of B5 HWl.out))
  have HS5 := Lib.hid (hs.wrote HW5.out)
  have HN5 := Lib.hid (hn0.under (B5.mono HWl.out))
  have HK5 := Lib.hid (hrd.below (B5.mono HWl.out) (Nat.le_refl _))
  have C21 := Lib.hid (fun (wq : World) (h : IsWr b g (bs ++ Lib.byteCells [40, 63, 62]) wq) (hb : Wrote b w5 wq) => ih k0 (by rw [hkids]; simp) (bs ++ Lib.byteCells [40, 63, 62]) d0 wq h (HN5.out.under hb.below) (HS5.out.wrote hb) (by simp only [List.length_append, byteCells_len, List.length_cons, List.length_nil]; omega))
  have CP3 := Lib.hid (fun (wq : World) (h : IsWr b g ((bs ++ Lib.byteCells [40, 63, 62]) ++ Lib.byteCells (showT nm k0)) wq) => putT b g ((bs ++ Lib.byteCells [40, 63, 62]) ++ Lib.byteCells (showT nm k0)) [[41]] wq h (by simp only [List.flatten_cons, List.flatten_nil, List.append_nil, List.length_append, byteCells_len, List.length_cons, List.length_nil]; omega))
  have HEND := Lib.hid (show ((bs ++ Lib.byteCells [40, 63, 62]) ++ Lib.byteCells (showT nm k0)) ++ Lib.byteCells [41] = bs ++ Lib.byteCells ([40, 63, 62] ++ showT nm k0 ++ [41]) by simp only [byteCells_app, List.append_assoc]; try rfl)
  have HKC := Lib.hid (fun (wq : World) (hb : Wrote b w5 wq) => by
    have h := (HK5.out.below hb.below (Nat.le_refl _)).node_at hkn
    simp only [List.getElem_cons_zero, Nat.zero_mul, Nat.add_zero] at h
    exact h)
  have HLK := Lib.hid (fun (wq : World) (hb : Wrote b w5 wq) => ((HS5.out.wrote hb).below (Below.drew (Below.refl b wq)) (Nat.le_refl _)).names.look d.num (by exact WalkArith.wf_i64 (by omega)))
  have HXK := Lib.hid (fun (wq : World) (hb : Wrote b w5 wq) => HX5.out.kept hb HH5.out hbne)
  simp only [List.map_cons, List.map_nil, List.length_cons, List.length_nil, Nat.zero_add, Nat.reduceAdd, List.flatten_cons, List.flatten_nil, List.append_nil, List.cons_append, List.nil_append] at CP1 CP3
  clear o1 o2 o3 o4 o5 g1 g2 g3 g4 g5 B1 B2 B3 B4 B5 s0 HM0
  rw [hk] at hkind
  clear h hn hs hd hlen hk hn0 hrd hkids ih
  obtain ⟨dk, dsA, dsn, dsc, dkA, dkn, dkc, dnum, dleast, dmost, dway, dfold⟩ := d
  unfold ND.agg at C21 ⊢
  unfold ND.box at hW hbs HX0 HI HS HNX HW0 HH0 r1 r2 r3 r4 r5 hlk HB5 HWl
  simp only at hbs HX0 HI HS HNX HW0 HH0 HD hkind r1 r2 r3 r4 r5 hlk hnum C21 CP1 CP3 HEND HKC HLK HXK ⊢
  obtain ⟨v0, v1, v2, v3, v4, v5, v6, v7, v8⟩ := HX0.out
  rw [← hW] at v0 v1 v2 v3 v4 v5 v6 v7 v8 hbs HI HS HNX HW0 HH0 r1 r2 r3 r4 r5 hlk HB5 HWl
  have HBS := Lib.hid hbs
  clear hbs
  subst hkind
  go_enter Tryd.func21, Tryd.ntmps21
  go_upto_region 34 with (fail)
  rw [← hW]
  clear hW
  obtain ⟨x0, x1, x2, x3, x4, x5, x6, x7, x8⟩ := HX5.out
  go_upto_region 35 with (go_at_call 33; refine CP1.out.mono ?_; rintro e wp ⟨rfl, h1, h2⟩; have HIP := Lib.hid h1; have HWP := Lib.hid h2; clear h1 h2)
  have hd0 := Below.drew (Below.refl wp.heap.size wp)
  have HI6 := Lib.hid (HIP.out.next hd0)
  have HW6 := Lib.hid (HWP.out.trans (Wrote.of hd0 (Nat.le_of_lt HIP.out.lt)))
  have hlk2 := HLK.out wp HWP.out
  have hnc := HIP.out.names
  clear x0 x1 x2 x3 x4 x5 x6 x7 x8 v0 v1 v2 v3 v4 v5 v6 v7 v8 r1 r2 r3 r4 r5 hlk
  obtain ⟨x0, x1, x2, x3, x4, x5, x6, x7, x8⟩ := HXK.out wp HWP.out
  obtain ⟨kb, ko, _, hA, hkb, c0, c1, c2, c3, c4, c5, c6, c7⟩ := HKC.out wp HWP.out
  subst hA
  clear hd0
  go_region
  all_goals
    go_wp2_with (first
      | (go_at_call 21; refine (C21.out wp.drew HI6.out HW6.out).mono ?_; rintro e wq ⟨rfl, h1, h2⟩; have HI7 := Lib.hid h1; have HW7 := Lib.hid h2; clear h1 h2)
      | (go_at_call 33; refine (CP3.out _ HI7.out).mono ?_; rintro e wz ⟨rfl, h1, h2⟩; have H1 := Lib.hid h1; have H2 := Lib.hid h2; clear h1 h2))
    go_end0
    exact ⟨rfl, by have h := H1.out; rw [HEND.out] at h; exact h, HW5.out.trans (HW6.out.trans (HW7.out.trans H2.out))⟩
set_option maxRecDepth 100000 in
set_option maxHeartbeats 8000000 in
theorem node_grp_14 (b g : Nat) (nm : Int → List UInt8) (t : Tr) (ih : ∀ k ∈ t.kids, Law21 b g nm k) (hk : t.kind = 14) (h1k : t.kids.length = 1) (hnum : 0 ≤ t.num ∧ t.num ≤ 20) : Law21 b g nm t := by
  intro bs d w h hn hs hlen
  have hlt := h.lt
  have HB0 := Lib.hid (ND.box_below w d)
  have HX0 := Lib.hid (BoxN.new w d)
  have hbs := ND.box_size w d
  have HI := Lib.hid (h.next HB0.out)
  have HS := Lib.hid (hs.below HB0.out (Nat.le_of_lt hlt))
  have HNX := Lib.hid (hn.under (HB0.out.mono (Nat.le_of_lt hlt)))
  have HW0 := Lib.hid (Wrote.of (b := b) HB0.out (Nat.le_of_lt hlt))
  have HH0 := Lib.hid (box_heap w d)
  have hbne : w.heap.size ≠ b := by omega
  obtain ⟨ds, hd⟩ := hn.of
  have HD := Lib.hid hd
  obtain ⟨W, hW⟩ : ∃ W, W = d.box w := ⟨_, rfl⟩
  have hkind := hd.kind
  have hmm := @run_makeMap Tryd.prog
  obtain ⟨k0, d0, hkids, hn0, hkn, hrd⟩ := node_kid0 HNX.out h1k
  have HT := Lib.hid (show showT nm t = [40, 63, 61] ++ showT nm k0 ++ [41] by rw [showT_eq]; unfold showK; rw [if_neg (by omega), if_neg (by omega), if_neg (by omega), if_neg (by omega), if_neg (by omega), if_neg (by omega), if_pos (by omega), hkids, hk]; rfl)
  rw [HT.out] at hlen ⊢
  simp only [List.length_append, List.length_cons, List.length_nil] at hlen
  rw [← hd.num] at hnum
  have HM0 := Lib.hid (World.ownsMap_made (H := Unit) (d.box w) Tryd.prog 3 ps)
  obtain ⟨w1, r1, o1, g1⟩ := insS HM0.out (by unfold maxLen; omega) 13 (by decide) ⟨#[63, 62]⟩ (by unfold maxLen; decide)
  obtain ⟨w2, r2, o2, g2⟩ := insS o1 (by unfold maxLen; omega) 14 (by decide) ⟨#[63, 61]⟩ (by unfold maxLen; decide)
  obtain ⟨w3, r3, o3, g3⟩ := insS o2 (by unfold maxLen; omega) 15 (by decide) ⟨#[63, 33]⟩ (by unfold maxLen; decide)
  obtain ⟨w4, r4, o4, g4⟩ := insS o3 (by unfold maxLen; omega) 16 (by decide) ⟨#[63, 60, 61]⟩ (by unfold maxLen; decide)
  obtain ⟨w5, r5, o5, g5⟩ := insS o4 (by unfold maxLen; omega) 17 (by decide) ⟨#[63, 60, 33]⟩ (by unfold maxLen; decide)
  have hlk := lookS o5 14 (by decide) (l := [63, 61]) rfl
  have s0 : ((d.box w).alloc (.map #[] 0)).heap.size = (d.box w).heap.size + 1 := by simp
  have B1 : Below (d.box w).heap.size (d.box w) w1 := Below.grown ((Below.refl _ _).alloc (Nat.le_refl _) _) g1 (by omega) (fun k hk => by cases hk; exact Nat.le_refl _)
  have B2 : Below (d.box w).heap.size (d.box w) w2 := B1.grown g2 B1.size (fun k hk => by cases hk; exact Nat.le_refl _)
  have B3 : Below (d.box w).heap.size (d.box w) w3 := B2.grown g3 B2.size (fun k hk => by cases hk; exact Nat.le_refl _)
  have B4 : Below (d.box w).heap.size (d.box w) w4 := B3.grown g4 B3.size (fun k hk => by cases hk; exact Nat.le_refl _)
  have B5 : Below (d.box w).heap.size (d.box w) w5 := B4.grown g5 B4.size (fun k hk => by cases hk; exact Nat.le_refl _)
  have HB5 := Lib.hid B5
  have HX5 := Lib.hid (HX0.out.next B5)
  have HWl := Lib.hid (show b ≤ (d.box w).heap.size by rw [hbs]; omega)
  have HH5 := Lib.hid (show ∃ cs fr, w5.heap[w.heap.size]? = some (.cells cs 25 fr) by
    obtain ⟨cs, fr, e⟩ := HH0.out
    exact ⟨cs, fr, by rw [B5.block _ (by rw [hbs]; omega)]; exact e⟩)
  have HI5 := Lib.hid (HI.out.next B5)
  have CP1 := Lib.hid (putT b g bs [[40], [63, 61]] w5 HI5.out (by show _ + 3 ≤ _; omega))
  have HW5 := Lib.hid (HW0.out.trans (Wrote.of B5 HWl.out))
  have HS5 := Lib.hid (hs.wrote HW5.out)
  have HN5 := Lib.hid (hn0.under (B5.mono HWl.out))
  have HK5 := Lib.hid (hrd.below (B5.mono HWl.out) (Nat.le_refl _))
  have C21 := Lib.hid (fun (wq : World) (h : IsWr b g (bs ++ Lib.byteCells [40, 63, 61]) wq) (hb : Wrote b w5 wq) => ih k0 (by rw [hkids]; simp) (bs ++ Lib.byteCells [40, 63, 61]) d0 wq h (HN5.out.under hb.below) (HS5.out.wrote hb) (by simp only [List.length_append, byteCells_len, List.length_cons, List.length_nil]; omega))
  have CP3 := Lib.hid (fun (wq : World) (h : IsWr b g ((bs ++ Lib.byteCells [40, 63, 61]) ++ Lib.byteCells (showT nm k0)) wq) => putT b g ((bs ++ Lib.byteCells [40, 63, 61]) ++ Lib.byteCells (showT nm k0)) [[41]] wq h (by simp only [List.flatten_cons, List.flatten_nil, List.append_nil, List.length_append, byteCells_len, List.length_cons, List.length_nil]; omega))
  have HEND := Lib.hid (show ((bs ++ Lib.byteCells [40, 63, 61]) ++ Lib.byteCells (showT nm k0)) ++ Lib.byteCells [41] = bs ++ Lib.byteCells ([40, 63, 61] ++ showT nm k0 ++ [41]) by simp only [byteCells_app, List.append_assoc]; try rfl)
  have HKC := Lib.hid (fun (wq : World) (hb : Wrote b w5 wq) => by
    have h := (HK5.out.below hb.below (Nat.le_refl _)).node_at hkn
    simp only [List.getElem_cons_zero, Nat.zero_mul, Nat.add_zero] at h
    exact h)
  have HLK := Lib.hid (fun (wq : World) (hb : Wrote b w5 wq) => ((HS5.out.wrote hb).below (Below.drew (Below.refl b wq)) (Nat.le_refl _)).names.look d.num (by exact WalkArith.wf_i64 (by omega)))
  have HXK := Lib.hid (fun (wq : World) (hb : Wrote b w5 wq) => HX5.out.kept hb HH5.out hbne)
  simp only [List.map_cons, List.map_nil, List.length_cons, List.length_nil, Nat.zero_add, Nat.reduceAdd, List.flatten_cons, List.flatten_nil, List.append_nil, List.cons_append, List.nil_append] at CP1 CP3
  clear o1 o2 o3 o4 o5 g1 g2 g3 g4 g5 B1 B2 B3 B4 B5 s0 HM0
  rw [hk] at hkind
  clear h hn hs hd hlen hk hn0 hrd hkids ih
  obtain ⟨dk, dsA, dsn, dsc, dkA, dkn, dkc, dnum, dleast, dmost, dway, dfold⟩ := d
  unfold ND.agg at C21 ⊢
  unfold ND.box at hW hbs HX0 HI HS HNX HW0 HH0 r1 r2 r3 r4 r5 hlk HB5 HWl
  simp only at hbs HX0 HI HS HNX HW0 HH0 HD hkind r1 r2 r3 r4 r5 hlk hnum C21 CP1 CP3 HEND HKC HLK HXK ⊢
  obtain ⟨v0, v1, v2, v3, v4, v5, v6, v7, v8⟩ := HX0.out
  rw [← hW] at v0 v1 v2 v3 v4 v5 v6 v7 v8 hbs HI HS HNX HW0 HH0 r1 r2 r3 r4 r5 hlk HB5 HWl
  have HBS := Lib.hid hbs
  clear hbs
  subst hkind
  go_enter Tryd.func21, Tryd.ntmps21
  go_upto_region 34 with (fail)
  rw [← hW]
  clear hW
  obtain ⟨x0, x1, x2, x3, x4, x5, x6, x7, x8⟩ := HX5.out
  go_upto_region 35 with (go_at_call 33; refine CP1.out.mono ?_; rintro e wp ⟨rfl, h1, h2⟩; have HIP := Lib.hid h1; have HWP := Lib.hid h2; clear h1 h2)
  have hd0 := Below.drew (Below.refl wp.heap.size wp)
  have HI6 := Lib.hid (HIP.out.next hd0)
  have HW6 := Lib.hid (HWP.out.trans (Wrote.of hd0 (Nat.le_of_lt HIP.out.lt)))
  have hlk2 := HLK.out wp HWP.out
  have hnc := HIP.out.names
  clear x0 x1 x2 x3 x4 x5 x6 x7 x8 v0 v1 v2 v3 v4 v5 v6 v7 v8 r1 r2 r3 r4 r5 hlk
  obtain ⟨x0, x1, x2, x3, x4, x5, x6, x7, x8⟩ := HXK.out wp HWP.out
  obtain ⟨kb, ko, _, hA, hkb, c0, c1, c2, c3, c4, c5, c6, c7⟩ := HKC.out wp HWP.out
  subst hA
  clear hd0
  go_region
  all_goals
    go_wp2_with (first
      | (go_at_call 21; refine (C21.out wp.drew HI6.out HW6.out).mono ?_; rintro e wq ⟨rfl, h1, h2⟩; have HI7 := Lib.hid h1; have HW7 := Lib.hid h2; clear h1 h2)
      | (go_at_call 33; refine (CP3.out _ HI7.out).mono ?_; rintro e wz ⟨rfl, h1, h2⟩; have H1 := Lib.hid h1; have H2 := Lib.hid h2; clear h1 h2))
    go_end0
    exact ⟨rfl, by have h := H1.out; rw [HEND.out] at h; exact h, HW5.out.trans (HW6.out.trans (HW7.out.trans H2.out))⟩
set_option maxRecDepth 100000 in
set_option maxHeartbeats 8000000 in
theorem node_grp_15 (b g : Nat) (nm : Int → List UInt8) (t : Tr) (ih : ∀ k ∈ t.kids, Law21 b g nm k) (hk : t.kind = 15) (h1k : t.kids.length = 1) (hnum : 0 ≤ t.num ∧ t.num ≤ 20) : Law21 b g nm t := by
  intro bs d w h hn hs hlen
  have hlt := h.lt
  have HB0 := Lib.hid (ND.box_below w d)
  have HX0 := Lib.hid (BoxN.new w d)
  have hbs := ND.box_size w d
  have HI := Lib.hid (h.next HB0.out)
  have HS := Lib.hid (hs.below HB0.out (Nat.le_of_lt hlt))
  have HNX := Lib.hid (hn.under (HB0.out.mono (Nat.le_of_lt hlt)))
  have HW0 := Lib.hid (Wrote.of (b := b) HB0.out (Nat.le_of_lt hlt))
  have HH0 := Lib.hid (box_heap w d)
  have hbne : w.heap.size ≠ b := by omega
  obtain ⟨ds, hd⟩ := hn.of
  have HD := Lib.hid hd
  obtain ⟨W, hW⟩ : ∃ W, W = d.box w := ⟨_, rfl⟩
  have hkind := hd.kind
  have hmm := @run_makeMap Tryd.prog
  obtain ⟨k0, d0, hkids, hn0, hkn, hrd⟩ := node_kid0 HNX.out h1k
  have HT := Lib.hid (show showT nm t = [40, 63, 33] ++ showT nm k0 ++ [41] by rw [showT_eq]; unfold showK; rw [if_neg (by omega), if_neg (by omega), if_neg (by omega), if_neg (by omega), if_neg (by omega), if_neg (by omega), if_pos (by omega), hkids, hk]; rfl)
  rw [HT.out] at hlen ⊢
  simp only [List.length_append, List.length_cons, List.length_nil] at hlen
  rw [← hd.num] at hnum
  have HM0 := Lib.hid (World.ownsMap_made (H := Unit) (d.box w) Tryd.prog 3 ps)
  obtain ⟨w1, r1, o1, g1⟩ := insS HM0.out (by unfold maxLen; omega) 13 (by decide) ⟨#[63, 62]⟩ (by unfold maxLen; decide)
  obtain ⟨w2, r2, o2, g2⟩ := insS o1 (by unfold maxLen; omega) 14 (by decide) ⟨#[63, 61]⟩ (by unfold maxLen; decide)
  obtain ⟨w3, r3, o3, g3⟩ := insS o2 (by unfold maxLen; omega) 15 (by decide) ⟨#[63, 33]⟩ (by unfold maxLen; decide)
  obtain ⟨w4, r4, o4, g4⟩ := insS o3 (by unfold maxLen; omega) 16 (by decide) ⟨#[63, 60, 61]⟩ (by unfold maxLen; decide)
  obtain ⟨w5, r5, o5, g5⟩ := insS o4 (by unfold maxLen; omega) 17 (by decide) ⟨#[63, 60, 33]⟩ (by unfold maxLen; decide)
  have hlk := lookS o5 15 (by decide) (l := [63, 33]) rfl
  have s0 : ((d.box w).alloc (.map #[] 0)).heap.size = (d.box w).heap.size + 1 := by simp
  have B1 : Below (d.box w).heap.size (d.box w) w1 := Below.grown ((Below.refl _ _).alloc (Nat.le_refl _) _) g1 (by omega) (fun k hk => by cases hk; exact Nat.le_refl _)
  have B2 : Below (d.box w).heap.size (d.box w) w2 := B1.grown g2 B1.size (fun k hk => by cases hk; exact Nat.le_refl _)
  have B3 : Below (d.box w).heap.size (d.box w) w3 := B2.grown g3 B2.size (fun k hk => by cases hk; exact Nat.le_refl _)
  have B4 : Below (d.box w).heap.size (d.box w) w4 := B3.grown g4 B3.size (fun k hk => by cases hk; exact Nat.le_refl _)
  have B5 : Below (d.box w).heap.size (d.box w) w5 := B4.grown g5 B4.size (fun k hk => by cases hk; exact Nat.le_refl _)
  have HB5 := Lib.hid B5
  have HX5 := Lib.hid (HX0.out.next B5)
  have HWl := Lib.hid (show b ≤ (d.box w).heap.size by rw [hbs]; omega)
  have HH5 := Lib.hid (show ∃ cs fr, w5.heap[w.heap.size]? = some (.cells cs 25 fr) by
    obtain ⟨cs, fr, e⟩ := HH0.out
    exact ⟨cs, fr, by rw [B5.block _ (by rw [hbs]; omega)]; exact e⟩)
  have HI5 := Lib.hid (HI.out.next B5)
  have CP1 := Lib.hid (putT b g bs [[40], [63, 33]] w5 HI5.out (by show _ + 3 ≤ _; omega))
  have HW5 := Lib.hid (HW0.out.trans (Wrote.of B5 HWl.out))
  have HS5 := Lib.hid (hs.wrote HW5.out)
  have HN5 := Lib.hid (hn0.under (B5.mono HWl.out))
  have HK5 := Lib.hid (hrd.below (B5.mono HWl.out) (Nat.le_refl _))
  have C21 := Lib.hid (fun (wq : World) (h : IsWr b g (bs ++ Lib.byteCells [40, 63, 33]) wq) (hb : Wrote b w5 wq) => ih k0 (by rw [hkids]; simp) (bs ++ Lib.byteCells [40, 63, 33]) d0 wq h (HN5.out.under hb.below) (HS5.out.wrote hb) (by simp only [List.length_append, byteCells_len, List.length_cons, List.length_nil]; omega))
  have CP3 := Lib.hid (fun (wq : World) (h : IsWr b g ((bs ++ Lib.byteCells [40, 63, 33]) ++ Lib.byteCells (showT nm k0)) wq) => putT b g ((bs ++ Lib.byteCells [40, 63, 33]) ++ Lib.byteCells (showT nm k0)) [[41]] wq h (by simp only [List.flatten_cons, List.flatten_nil, List.append_nil, List.length_append, byteCells_len, List.length_cons, List.length_nil]; omega))
  have HEND := Lib.hid (show ((bs ++ Lib.byteCells [40, 63, 33]) ++ Lib.byteCells (showT nm k0)) ++ Lib.byteCells [41] = bs ++ Lib.byteCells ([40, 63, 33] ++ showT nm k0 ++ [41]) by simp only [byteCells_app, List.append_assoc]; try rfl)
  have HKC := Lib.hid (fun (wq : World) (hb : Wrote b w5 wq) => by
    have h := (HK5.out.below hb.below (Nat.le_refl _)).node_at hkn
    simp only [List.getElem_cons_zero, Nat.zero_mul, Nat.add_zero] at h
    exact h)
  have HLK := Lib.hid (fun (wq : World) (hb : Wrote b w5 wq) => ((HS5.out.wrote hb).below (Below.drew (Below.refl b wq)) (Nat.le_refl _)).names.look d.num (by exact WalkArith.wf_i64 (by omega)))
  have HXK := Lib.hid (fun (wq : World) (hb : Wrote b w5 wq) => HX5.out.kept hb HH5.out hbne)
  simp only [List.map_cons, List.map_nil, List.length_cons, List.length_nil, Nat.zero_add, Nat.reduceAdd, List.flatten_cons, List.flatten_nil, List.append_nil, List.cons_append, List.nil_append] at CP1 CP3
  clear o1 o2 o3 o4 o5 g1 g2 g3 g4 g5 B1 B2 B3 B4 B5 s0 HM0
  rw [hk] at hkind
  clear h hn hs hd hlen hk hn0 hrd hkids ih
  obtain ⟨dk, dsA, dsn, dsc, dkA, dkn, dkc, dnum, dleast, dmost, dway, dfold⟩ := d
  unfold ND.agg at C21 ⊢
  unfold ND.box at hW hbs HX0 HI HS HNX HW0 HH0 r1 r2 r3 r4 r5 hlk HB5 HWl
  simp only at hbs HX0 HI HS HNX HW0 HH0 HD hkind r1 r2 r3 r4 r5 hlk hnum C21 CP1 CP3 HEND HKC HLK HXK ⊢
  obtain ⟨v0, v1, v2, v3, v4, v5, v6, v7, v8⟩ := HX0.out
  rw [← hW] at v0 v1 v2 v3 v4 v5 v6 v7 v8 hbs HI HS HNX HW0 HH0 r1 r2 r3 r4 r5 hlk HB5 HWl
  have HBS := Lib.hid hbs
  clear hbs
  subst hkind
  go_enter Tryd.func21, Tryd.ntmps21
  go_upto_region 34 with (fail)
  rw [← hW]
  clear hW
  obtain ⟨x0, x1, x2, x3, x4, x5, x6, x7, x8⟩ := HX5.out
  go_upto_region 35 with (go_at_call 33; refine CP1.out.mono ?_; rintro e wp ⟨rfl, h1, h2⟩; have HIP := Lib.hid h1; have HWP := Lib.hid h2; clear h1 h2)
  have hd0 := Below.drew (Below.refl wp.heap.size wp)
  have HI6 := Lib.hid (HIP.out.next hd0)
  have HW6 := Lib.hid (HWP.out.trans (Wrote.of hd0 (Nat.le_of_lt HIP.out.lt)))
  have hlk2 := HLK.out wp HWP.out
  have hnc := HIP.out.names
  clear x0 x1 x2 x3 x4 x5 x6 x7 x8 v0 v1 v2 v3 v4 v5 v6 v7 v8 r1 r2 r3 r4 r5 hlk
  obtain ⟨x0, x1, x2, x3, x4, x5, x6, x7, x8⟩ := HXK.out wp HWP.out
  obtain ⟨kb, ko, _, hA, hkb, c0, c1, c2, c3, c4, c5, c6, c7⟩ := HKC.out wp HWP.out
  subst hA
  clear hd0
  go_region
  all_goals
    go_wp2_with (first
      | (go_at_call 21; refine (C21.out wp.drew HI6.out HW6.out).mono ?_; rintro e wq ⟨rfl, h1, h2⟩; have HI7 := Lib.hid h1; have HW7 := Lib.hid h2; clear h1 h2)
      | (go_at_call 33; refine (CP3.out _ HI7.out).mono ?_; rintro e wz ⟨rfl, h1, h2⟩; have H1 := Lib.hid h1; have H2 := Lib.hid h2; clear h1 h2))
    go_end0
    exact ⟨rfl, by have h := H1.out; rw [HEND.out] at h; exact h, HW5.out.trans (HW6.out.trans (HW7.out.trans H2.out))⟩
set_option maxRecDepth 100000 in
set_option maxHeartbeats 8000000 in
theorem node_grp_16 (b g : Nat) (nm : Int → List UInt8) (t : Tr) (ih : ∀ k ∈ t.kids, Law21 b g nm k) (hk : t.kind = 16) (h1k : t.kids.length = 1) (hnum : 0 ≤ t.num ∧ t.num ≤ 20) : Law21 b g nm t := by
  intro bs d w h hn hs hlen
  have hlt := h.lt
  have HB0 := Lib.hid (ND.box_below w d)
  have HX0 := Lib.hid (BoxN.new w d)
  have hbs := ND.box_size w d
  have HI := Lib.hid (h.next HB0.out)
  have HS := Lib.hid (hs.below HB0.out (Nat.le_of_lt hlt))
  have HNX := Lib.hid (hn.under (HB0.out.mono (Nat.le_of_lt hlt)))
  have HW0 := Lib.hid (Wrote.of (b := b) HB0.out (Nat.le_of_lt hlt))
  have HH0 := Lib.hid (box_heap w d)
  have hbne : w.heap.size ≠ b := by omega
  obtain ⟨ds, hd⟩ := hn.of
  have HD := Lib.hid hd
  obtain ⟨W, hW⟩ : ∃ W, W = d.box w := ⟨_, rfl⟩
  have hkind := hd.kind
  have hmm := @run_makeMap Tryd.prog
  obtain ⟨k0, d0, hkids, hn0, hkn, hrd⟩ := node_kid0 HNX.out h1k
  have HT := Lib.hid (show showT nm t = [40, 63, 60, 61] ++ showT nm k0 ++ [41] by rw [showT_eq]; unfold showK; rw [if_neg (by omega), if_neg (by omega), if_neg (by omega), if_neg (by omega), if_neg (by omega), if_neg (by omega), if_pos (by omega), hkids, hk]; rfl)
  rw [HT.out] at hlen ⊢
  simp only [List.length_append, List.length_cons, List.length_nil] at hlen
  rw [← hd.num] at hnum
  have HM0 := Lib.hid (World.ownsMap_made (H := Unit) (d.box w) Tryd.prog 3 ps)
  obtain ⟨w1, r1, o1, g1⟩ := insS HM0.out (by unfold maxLen; omega) 13 (by decide) ⟨#[63, 62]⟩ (by unfold maxLen; decide)
  obtain ⟨w2, r2, o2, g2⟩ := insS o1 (by unfold maxLen; omega) 14 (by decide) ⟨#[63, 61]⟩ (by unfold maxLen; decide)
  obtain ⟨w3, r3, o3, g3⟩ := insS o2 (by unfold maxLen; omega) 15 (by decide) ⟨#[63, 33]⟩ (by unfold maxLen; decide)
  obtain ⟨w4, r4, o4, g4⟩ := insS o3 (by unfold maxLen; omega) 16 (by decide) ⟨#[63, 60, 61]⟩ (by unfold maxLen; decide)
  obtain ⟨w5, r5, o5, g5⟩ := insS o4 (by unfold maxLen; omega) 17 (by decide) ⟨#[63, 60, 33]⟩ (by unfold maxLen; decide)
  have hlk := lookS o5 16 (by decide) (l := [63, 60, 61]) rfl
  have s0 : ((d.box w).alloc (.map #[] 0)).heap.size = (d.box w).heap.size + 1 := by simp
  have B1 : Below (d.box w).heap.size (d.box w) w1 := Below.grown ((Below.refl _ _).alloc (Nat.le_refl _) _) g1 (by omega) (fun k hk => by cases hk; exact Nat.le_refl _)
  have B2 : Below (d.box w).heap.size (d.box w) w2 := B1.grown g2 B1.size (fun k hk => by cases hk; exact Nat.le_refl _)
  have B3 : Below (d.box w).heap.size (d.box w) w3 := B2.grown g3 B2.size (fun k hk => by cases hk; exact Nat.le_refl _)
  have B4 : Below (d.box w).heap.size (d.box w) w4 := B3.grown g4 B3.size (fun k hk => by cases hk; exact Nat.le_refl _)
  have B5 : Below (d.box w).heap.size (d.box w) w5 := B4.grown g5 B4.size (fun k hk => by cases hk; exact Nat.le_refl _)
  have HB5 := Lib.hid B5
  have HX5 := Lib.hid (HX0.out.next B5)
  have HWl := Lib.hid (show b ≤ (d.box w).heap.size by rw [hbs]; omega)
  have HH5 := Lib.hid (show ∃ cs fr, w5.heap[w.heap.size]? = some (.cells cs 25 fr) by
    obtain ⟨cs, fr, e⟩ := HH0.out
    exact ⟨cs, fr, by rw [B5.block _ (by rw [hbs]; omega)]; exact e⟩)
  have HI5 := Lib.hid (HI.out.next B5)
  have CP1 := Lib.hid (putT b g bs [[40], [63, 60, 61]] w5 HI5.out (by show _ + 4 ≤ _; omega))
  have HW5 := Lib.hid (HW0.out.trans (Wrote.of B5 HWl.out))
  have HS5 := Lib.hid (hs.wrote HW5.out)
  have HN5 := Lib.hid (hn0.under (B5.mono HWl.out))
  have HK5 := Lib.hid (hrd.below (B5.mono HWl.out) (Nat.le_refl _))
  have C21 := Lib.hid (fun (wq : World) (h : IsWr b g (bs ++ Lib.byteCells [40, 63, 60, 61]) wq) (hb : Wrote b w5 wq) => ih k0 (by rw [hkids]; simp) (bs ++ Lib.byteCells [40, 63, 60, 61]) d0 wq h (HN5.out.under hb.below) (HS5.out.wrote hb) (by simp only [List.length_append, byteCells_len, List.length_cons, List.length_nil]; omega))
  have CP3 := Lib.hid (fun (wq : World) (h : IsWr b g ((bs ++ Lib.byteCells [40, 63, 60, 61]) ++ Lib.byteCells (showT nm k0)) wq) => putT b g ((bs ++ Lib.byteCells [40, 63, 60, 61]) ++ Lib.byteCells (showT nm k0)) [[41]] wq h (by simp only [List.flatten_cons, List.flatten_nil, List.append_nil, List.length_append, byteCells_len, List.length_cons, List.length_nil]; omega))
  have HEND := Lib.hid (show ((bs ++ Lib.byteCells [40, 63, 60, 61]) ++ Lib.byteCells (showT nm k0)) ++ Lib.byteCells [41] = bs ++ Lib.byteCells ([40, 63, 60, 61] ++ showT nm k0 ++ [41]) by simp only [byteCells_app, List.append_assoc]; try rfl)
  have HKC := Lib.hid (fun (wq : World) (hb : Wrote b w5 wq) => by
    have h := (HK5.out.below hb.below (Nat.le_refl _)).node_at hkn
    simp only [List.getElem_cons_zero, Nat.zero_mul, Nat.add_zero] at h
    exact h)
  have HLK := Lib.hid (fun (wq : World) (hb : Wrote b w5 wq) => ((HS5.out.wrote hb).below (Below.drew (Below.refl b wq)) (Nat.le_refl _)).names.look d.num (by exact WalkArith.wf_i64 (by omega)))
  have HXK := Lib.hid (fun (wq : World) (hb : Wrote b w5 wq) => HX5.out.kept hb HH5.out hbne)
  simp only [List.map_cons, List.map_nil, List.length_cons, List.length_nil, Nat.zero_add, Nat.reduceAdd, List.flatten_cons, List.flatten_nil, List.append_nil, List.cons_append, List.nil_append] at CP1 CP3
  clear o1 o2 o3 o4 o5 g1 g2 g3 g4 g5 B1 B2 B3 B4 B5 s0 HM0
  rw [hk] at hkind
  clear h hn hs hd hlen hk hn0 hrd hkids ih
  obtain ⟨dk, dsA, dsn, dsc, dkA, dkn, dkc, dnum, dleast, dmost, dway, dfold⟩ := d
  unfold ND.agg at C21 ⊢
  unfold ND.box at hW hbs HX0 HI HS HNX HW0 HH0 r1 r2 r3 r4 r5 hlk HB5 HWl
  simp only at hbs HX0 HI HS HNX HW0 HH0 HD hkind r1 r2 r3 r4 r5 hlk hnum C21 CP1 CP3 HEND HKC HLK HXK ⊢
  obtain ⟨v0, v1, v2, v3, v4, v5, v6, v7, v8⟩ := HX0.out
  rw [← hW] at v0 v1 v2 v3 v4 v5 v6 v7 v8 hbs HI HS HNX HW0 HH0 r1 r2 r3 r4 r5 hlk HB5 HWl
  have HBS := Lib.hid hbs
  clear hbs
  subst hkind
  go_enter Tryd.func21, Tryd.ntmps21
  go_upto_region 34 with (fail)
  rw [← hW]
  clear hW
  obtain ⟨x0, x1, x2, x3, x4, x5, x6, x7, x8⟩ := HX5.out
  go_upto_region 35 with (go_at_call 33; refine CP1.out.mono ?_; rintro e wp ⟨rfl, h1, h2⟩; have HIP := Lib.hid h1; have HWP := Lib.hid h2; clear h1 h2)
  have hd0 := Below.drew (Below.refl wp.heap.size wp)
  have HI6 := Lib.hid (HIP.out.next hd0)
  have HW6 := Lib.hid (HWP.out.trans (Wrote.of hd0 (Nat.le_of_lt HIP.out.lt)))
  have hlk2 := HLK.out wp HWP.out
  have hnc := HIP.out.names
  clear x0 x1 x2 x3 x4 x5 x6 x7 x8 v0 v1 v2 v3 v4 v5 v6 v7 v8 r1 r2 r3 r4 r5 hlk
  obtain ⟨x0, x1, x2, x3, x4, x5, x6, x7, x8⟩ := HXK.out wp HWP.out
  obtain ⟨kb, ko, _, hA, hkb, c0, c1, c2, c3, c4, c5, c6, c7⟩ := HKC.out wp HWP.out
  subst hA
  clear hd0
  go_region
  all_goals
    go_wp2_with (first
      | (go_at_call 21; refine (C21.out wp.drew HI6.out HW6.out).mono ?_; rintro e wq ⟨rfl, h1, h2⟩; have HI7 := Lib.hid h1; have HW7 := Lib.hid h2; clear h1 h2)
      | (go_at_call 33; refine (CP3.out _ HI7.out).mono ?_; rintro e wz ⟨rfl, h1, h2⟩; have H1 := Lib.hid h1; have H2 := Lib.hid h2; clear h1 h2))
    go_end0
    exact ⟨rfl, by have h := H1.out; rw [HEND.out] at h; exact h, HW5.out.trans (HW6.out.trans (HW7.out.trans H2.out))⟩
set_option maxRecDepth 100000 in
set_option maxHeartbeats 8000000 in
theorem node_grp_17 (b g : Nat) (nm : Int → List UInt8) (t : Tr) (ih : ∀ k ∈ t.kids, Law21 b g nm k) (hk : t.kind = 17) (h1k : t.kids.length = 1) (hnum : 0 ≤ t.num ∧ t.num ≤ 20) : Law21 b g nm t := by
  intro bs d w h hn hs hlen
  have hlt := h.lt
  have HB0 := Lib.hid (ND.box_below w d)
  have HX0 := Lib.hid (BoxN.new w d)
  have hbs := ND.box_size w d
  have HI := Lib.hid (h.next HB0.out)
  have HS := Lib.hid (hs.below HB0.out (Nat.le_of_lt hlt))
  have HNX := Lib.hid (hn.under (HB0.out.mono (Nat.le_of_lt hlt)))
  have HW0 := Lib.hid (Wrote.of (b := b) HB0.out (Nat.le_of_lt hlt))
  have HH0 := Lib.hid (box_heap w d)
  have hbne : w.heap.size ≠ b := by omega
  obtain ⟨ds, hd⟩ := hn.of
  have HD := Lib.hid hd
  obtain ⟨W, hW⟩ : ∃ W, W = d.box w := ⟨_, rfl⟩
  have hkind := hd.kind
  have hmm := @run_makeMap Tryd.prog
  obtain ⟨k0, d0, hkids, hn0, hkn, hrd⟩ := node_kid0 HNX.out h1k
  have HT := Lib.hid (show showT nm t = [40, 63, 60, 33] ++ showT nm k0 ++ [41] by rw [showT_eq]; unfold showK; rw [if_neg (by omega), if_neg (by omega), if_neg (by omega), if_neg (by omega), if_neg (by omega), if_neg (by omega), if_pos (by omega), hkids, hk]; rfl)
  rw [HT.out] at hlen ⊢
  simp only [List.length_append, List.length_cons, List.length_nil] at hlen
  rw [← hd.num] at hnum
  have HM0 := Lib.hid (World.ownsMap_made (H := Unit) (d.box w) Tryd.prog 3 ps)
  obtain ⟨w1, r1, o1, g1⟩ := insS HM0.out (by unfold maxLen; omega) 13 (by decide) ⟨#[63, 62]⟩ (by unfold maxLen; decide)
  obtain ⟨w2, r2, o2, g2⟩ := insS o1 (by unfold maxLen; omega) 14 (by decide) ⟨#[63, 61]⟩ (by unfold maxLen; decide)
  obtain ⟨w3, r3, o3, g3⟩ := insS o2 (by unfold maxLen; omega) 15 (by decide) ⟨#[63, 33]⟩ (by unfold maxLen; decide)
  obtain ⟨w4, r4, o4, g4⟩ := insS o3 (by unfold maxLen; omega) 16 (by decide) ⟨#[63, 60, 61]⟩ (by unfold maxLen; decide)
  obtain ⟨w5, r5, o5, g5⟩ := insS o4 (by unfold maxLen; omega) 17 (by decide) ⟨#[63, 60, 33]⟩ (by unfold maxLen; decide)
  have hlk := lookS o5 17 (by decide) (l := [63, 60, 33]) rfl
  have s0 : ((d.box w).alloc (.map #[] 0)).heap.size = (d.box w).heap.size + 1 := by simp
  have B1 : Below (d.box w).heap.size (d.box w) w1 := Below.grown ((Below.refl _ _).alloc (Nat.le_refl _) _) g1 (by omega) (fun k hk => by cases hk; exact Nat.le_refl _)
  have B2 : Below (d.box w).heap.size (d.box w) w2 := B1.grown g2 B1.size (fun k hk => by cases hk; exact Nat.le_refl _)
  have B3 : Below (d.box w).heap.size (d.box w) w3 := B2.grown g3 B2.size (fun k hk => by cases hk; exact Nat.le_refl _)
  have B4 : Below (d.box w).heap.size (d.box w) w4 := B3.grown g4 B3.size (fun k hk => by cases hk; exact Nat.le_refl _)
  have B5 : Below (d.box w).heap.size (d.box w) w5 := B4.grown g5 B4.size (fun k hk => by cases hk; exact Nat.le_refl _)
  have HB5 := Lib.hid B5
  have HX5 := Lib.hid (HX0.out.next B5)
  have HWl := Lib.hid (show b ≤ (d.box w).heap.size by rw [hbs]; omega)
  have HH5 := Lib.hid (show ∃ cs fr, w5.heap[w.heap.size]? = some (.cells cs 25 fr) by
    obtain ⟨cs, fr, e⟩ := HH0.out
    exact ⟨cs, fr, by rw [B5.block _ (by rw [hbs]; omega)]; exact e⟩)
  have HI5 := Lib.hid (HI.out.next B5)
  have CP1 := Lib.hid (putT b g bs [[40], [63, 60, 33]] w5 HI5.out (by show _ + 4 ≤ _; omega))
  have HW5 := Lib.hid (HW0.out.trans (Wrote.of B5 HWl.out))
  have HS5 := Lib.hid (hs.wrote HW5.out)
  have HN5 := Lib.hid (hn0.under (B5.mono HWl.out))
  have HK5 := Lib.hid (hrd.below (B5.mono HWl.out) (Nat.le_refl _))
  have C21 := Lib.hid (fun (wq : World) (h : IsWr b g (bs ++ Lib.byteCells [40, 63, 60, 33]) wq) (hb : Wrote b w5 wq) => ih k0 (by rw [hkids]; simp) (bs ++ Lib.byteCells [40, 63, 60, 33]) d0 wq h (HN5.out.under hb.below) (HS5.out.wrote hb) (by simp only [List.length_append, byteCells_len, List.length_cons, List.length_nil]; omega))
  have CP3 := Lib.hid (fun (wq : World) (h : IsWr b g ((bs ++ Lib.byteCells [40, 63, 60, 33]) ++ Lib.byteCells (showT nm k0)) wq) => putT b g ((bs ++ Lib.byteCells [40, 63, 60, 33]) ++ Lib.byteCells (showT nm k0)) [[41]] wq h (by simp only [List.flatten_cons, List.flatten_nil, List.append_nil, List.length_append, byteCells_len, List.length_cons, List.length_nil]; omega))
  have HEND := Lib.hid (show ((bs ++ Lib.byteCells [40, 63, 60, 33]) ++ Lib.byteCells (showT nm k0)) ++ Lib.byteCells [41] = bs ++ Lib.byteCells ([40, 63, 60, 33] ++ showT nm k0 ++ [41]) by simp only [byteCells_app, List.append_assoc]; try rfl)
  have HKC := Lib.hid (fun (wq : World) (hb : Wrote b w5 wq) => by
    have h := (HK5.out.below hb.below (Nat.le_refl _)).node_at hkn
    simp only [List.getElem_cons_zero, Nat.zero_mul, Nat.add_zero] at h
    exact h)
  have HLK := Lib.hid (fun (wq : World) (hb : Wrote b w5 wq) => ((HS5.out.wrote hb).below (Below.drew (Below.refl b wq)) (Nat.le_refl _)).names.look d.num (by exact WalkArith.wf_i64 (by omega)))
  have HXK := Lib.hid (fun (wq : World) (hb : Wrote b w5 wq) => HX5.out.kept hb HH5.out hbne)
  simp only [List.map_cons, List.map_nil, List.length_cons, List.length_nil, Nat.zero_add, Nat.reduceAdd, List.flatten_cons, List.flatten_nil, List.append_nil, List.cons_append, List.nil_append] at CP1 CP3
  clear o1 o2 o3 o4 o5 g1 g2 g3 g4 g5 B1 B2 B3 B4 B5 s0 HM0
  rw [hk] at hkind
  clear h hn hs hd hlen hk hn0 hrd hkids ih
  obtain ⟨dk, dsA, dsn, dsc, dkA, dkn, dkc, dnum, dleast, dmost, dway, dfold⟩ := d
  unfold ND.agg at C21 ⊢
  unfold ND.box at hW hbs HX0 HI HS HNX HW0 HH0 r1 r2 r3 r4 r5 hlk HB5 HWl
  simp only at hbs HX0 HI HS HNX HW0 HH0 HD hkind r1 r2 r3 r4 r5 hlk hnum C21 CP1 CP3 HEND HKC HLK HXK ⊢
  obtain ⟨v0, v1, v2, v3, v4, v5, v6, v7, v8⟩ := HX0.out
  rw [← hW] at v0 v1 v2 v3 v4 v5 v6 v7 v8 hbs HI HS HNX HW0 HH0 r1 r2 r3 r4 r5 hlk HB5 HWl
  have HBS := Lib.hid hbs
  clear hbs
  subst hkind
  go_enter Tryd.func21, Tryd.ntmps21
  go_upto_region 34 with (fail)
  rw [← hW]
  clear hW
  obtain ⟨x0, x1, x2, x3, x4, x5, x6, x7, x8⟩ := HX5.out
  go_upto_region 35 with (go_at_call 33; refine CP1.out.mono ?_; rintro e wp ⟨rfl, h1, h2⟩; have HIP := Lib.hid h1; have HWP := Lib.hid h2; clear h1 h2)
  have hd0 := Below.drew (Below.refl wp.heap.size wp)
  have HI6 := Lib.hid (HIP.out.next hd0)
  have HW6 := Lib.hid (HWP.out.trans (Wrote.of hd0 (Nat.le_of_lt HIP.out.lt)))
  have hlk2 := HLK.out wp HWP.out
  have hnc := HIP.out.names
  clear x0 x1 x2 x3 x4 x5 x6 x7 x8 v0 v1 v2 v3 v4 v5 v6 v7 v8 r1 r2 r3 r4 r5 hlk
  obtain ⟨x0, x1, x2, x3, x4, x5, x6, x7, x8⟩ := HXK.out wp HWP.out
  obtain ⟨kb, ko, _, hA, hkb, c0, c1, c2, c3, c4, c5, c6, c7⟩ := HKC.out wp HWP.out
  subst hA
  clear hd0
  go_region
  all_goals
    go_wp2_with (first
      | (go_at_call 21; refine (C21.out wp.drew HI6.out HW6.out).mono ?_; rintro e wq ⟨rfl, h1, h2⟩; have HI7 := Lib.hid h1; have HW7 := Lib.hid h2; clear h1 h2)
      | (go_at_call 33; refine (CP3.out _ HI7.out).mono ?_; rintro e wz ⟨rfl, h1, h2⟩; have H1 := Lib.hid h1; have H2 := Lib.hid h2; clear h1 h2))
    go_end0
    exact ⟨rfl, by have h := H1.out; rw [HEND.out] at h; exact h, HW5.out.trans (HW6.out.trans (HW7.out.trans H2.out))⟩
set_option maxRecDepth 100000 in
set_option maxHeartbeats 8000000 in
theorem node_grp_11_bare (b g : Nat) (nm : Int → List UInt8) (t : Tr) (ih : ∀ k ∈ t.kids, Law21 b g nm k) (hk : t.kind = 11) (h1k : t.kids.length = 1) (hnum : 0 ≤ t.num ∧ t.num ≤ 20) (hnm : nm t.num = []) : Law21 b g nm t := by
  intro bs d w h hn hs hlen
  have hlt := h.lt
  have HB0 := Lib.hid (ND.box_below w d)
  have HX0 := Lib.hid (BoxN.new w d)
  have hbs := ND.box_size w d
  have HI := Lib.hid (h.next HB0.out)
  have HS := Lib.hid (hs.below HB0.out (Nat.le_of_lt hlt))
  have HNX := Lib.hid (hn.under (HB0.out.mono (Nat.le_of_lt hlt)))
  have HW0 := Lib.hid (Wrote.of (b := b) HB0.out (Nat.le_of_lt hlt))
  have HH0 := Lib.hid (box_heap w d)
  have hbne : w.heap.size ≠ b := by omega
  obtain ⟨ds, hd⟩ := hn.of
  have HD := Lib.hid hd
  obtain ⟨W, hW⟩ : ∃ W, W = d.box w := ⟨_, rfl⟩
  have hkind := hd.kind
  have hmm := @run_makeMap Tryd.prog
  obtain ⟨k0, d0, hkids, hn0, hkn, hrd⟩ := node_kid0 HNX.out h1k
  rw [← hd.num] at hnm
  have HT := Lib.hid (show showT nm t = [40] ++ showT nm k0 ++ [41] by rw [showT_eq]; unfold showK; rw [if_neg (by omega), if_neg (by omega), if_neg (by omega), if_neg (by omega), if_neg (by omega), if_neg (by omega), if_pos (by omega), hkids, hk]; unfold markT; rw [if_pos rfl, ← hd.num, if_pos hnm]; rfl)
  rw [HT.out] at hlen ⊢
  simp only [List.length_append, List.length_cons, List.length_nil] at hlen
  rw [← hd.num] at hnum
  have HM0 := Lib.hid (World.ownsMap_made (H := Unit) (d.box w) Tryd.prog 3 ps)
  obtain ⟨w1, r1, o1, g1⟩ := insS HM0.out (by unfold maxLen; omega) 13 (by decide) ⟨#[63, 62]⟩ (by unfold maxLen; decide)
  obtain ⟨w2, r2, o2, g2⟩ := insS o1 (by unfold maxLen; omega) 14 (by decide) ⟨#[63, 61]⟩ (by unfold maxLen; decide)
  obtain ⟨w3, r3, o3, g3⟩ := insS o2 (by unfold maxLen; omega) 15 (by decide) ⟨#[63, 33]⟩ (by unfold maxLen; decide)
  obtain ⟨w4, r4, o4, g4⟩ := insS o3 (by unfold maxLen; omega) 16 (by decide) ⟨#[63, 60, 61]⟩ (by unfold maxLen; decide)
  obtain ⟨w5, r5, o5, g5⟩ := insS o4 (by unfold maxLen; omega) 17 (by decide) ⟨#[63, 60, 33]⟩ (by unfold maxLen; decide)
  have hlk := lookS o5 11 (by decide) (l := []) rfl
  have s0 : ((d.box w).alloc (.map #[] 0)).heap.size = (d.box w).heap.size + 1 := by simp
  have B1 : Below (d.box w).heap.size (d.box w) w1 := Below.grown ((Below.refl _ _).alloc (Nat.le_refl _) _) g1 (by omega) (fun k hk => by cases hk; exact Nat.le_refl _)
  have B2 : Below (d.box w).heap.size (d.box w) w2 := B1.grown g2 B1.size (fun k hk => by cases hk; exact Nat.le_refl _)
  have B3 : Below (d.box w).heap.size (d.box w) w3 := B2.grown g3 B2.size (fun k hk => by cases hk; exact Nat.le_refl _)
  have B4 : Below (d.box w).heap.size (d.box w) w4 := B3.grown g4 B3.size (fun k hk => by cases hk; exact Nat.le_refl _)
  have B5 : Below (d.box w).heap.size (d.box w) w5 := B4.grown g5 B4.size (fun k hk => by cases hk; exact Nat.le_refl _)
  have HB5 := Lib.hid B5
  have HX5 := Lib.hid (HX0.out.next B5)
  have HWl := Lib.hid (show b ≤ (d.box w).heap.size by rw [hbs]; omega)
  have HH5 := Lib.hid (show ∃ cs fr, w5.heap[w.heap.size]? = some (.cells cs 25 fr) by
    obtain ⟨cs, fr, e⟩ := HH0.out
    exact ⟨cs, fr, by rw [B5.block _ (by rw [hbs]; omega)]; exact e⟩)
  have HI5 := Lib.hid (HI.out.next B5)
  have CP1 := Lib.hid (putT b g bs [[40], []] w5 HI5.out (by show _ + 1 ≤ _; omega))
  have HW5 := Lib.hid (HW0.out.trans (Wrote.of B5 HWl.out))
  have HS5 := Lib.hid (hs.wrote HW5.out)
  have HN5 := Lib.hid (hn0.under (B5.mono HWl.out))
  have HK5 := Lib.hid (hrd.below (B5.mono HWl.out) (Nat.le_refl _))
  have C21 := Lib.hid (fun (wq : World) (h : IsWr b g (bs ++ Lib.byteCells [40]) wq) (hb : Wrote b w5 wq) => ih k0 (by rw [hkids]; simp) (bs ++ Lib.byteCells [40]) d0 wq h (HN5.out.under hb.below) (HS5.out.wrote hb) (by simp only [List.length_append, byteCells_len, List.length_cons, List.length_nil]; omega))
  have CP3 := Lib.hid (fun (wq : World) (h : IsWr b g ((bs ++ Lib.byteCells [40]) ++ Lib.byteCells (showT nm k0)) wq) => putT b g ((bs ++ Lib.byteCells [40]) ++ Lib.byteCells (showT nm k0)) [[41]] wq h (by simp only [List.flatten_cons, List.flatten_nil, List.append_nil, List.length_append, byteCells_len, List.length_cons, List.length_nil]; omega))
  have HEND := Lib.hid (show ((bs ++ Lib.byteCells [40]) ++ Lib.byteCells (showT nm k0)) ++ Lib.byteCells [41] = bs ++ Lib.byteCells ([40] ++ showT nm k0 ++ [41]) by simp only [byteCells_app, List.append_assoc]; try rfl)
  have HKC := Lib.hid (fun (wq : World) (hb : Wrote b w5 wq) => by
    have h := (HK5.out.below hb.below (Nat.le_refl _)).node_at hkn
    simp only [List.getElem_cons_zero, Nat.zero_mul, Nat.add_zero] at h
    exact h)
  have HLK := Lib.hid (fun (wq : World) (hb : Wrote b w5 wq) => ((HS5.out.wrote hb).below (Below.drew (Below.refl b wq)) (Nat.le_refl _)).names.look d.num (by exact WalkArith.wf_i64 (by omega)))
  have HXK := Lib.hid (fun (wq : World) (hb : Wrote b w5 wq) => HX5.out.kept hb HH5.out hbne)
  simp only [List.map_cons, List.map_nil, List.length_cons, List.length_nil, Nat.zero_add, Nat.reduceAdd, List.flatten_cons, List.flatten_nil, List.append_nil, List.cons_append, List.nil_append] at CP1 CP3
  clear o1 o2 o3 o4 o5 g1 g2 g3 g4 g5 B1 B2 B3 B4 B5 s0 HM0
  rw [hk] at hkind
  clear h hn hs hd hlen hk hn0 hrd hkids ih
  obtain ⟨dk, dsA, dsn, dsc, dkA, dkn, dkc, dnum, dleast, dmost, dway, dfold⟩ := d
  unfold ND.agg at C21 ⊢
  unfold ND.box at hW hbs HX0 HI HS HNX HW0 HH0 r1 r2 r3 r4 r5 hlk HB5 HWl
  simp only at hbs HX0 HI HS HNX HW0 HH0 HD hkind r1 r2 r3 r4 r5 hlk hnum C21 CP1 CP3 HEND HKC HLK HXK hnm ⊢
  obtain ⟨v0, v1, v2, v3, v4, v5, v6, v7, v8⟩ := HX0.out
  rw [← hW] at v0 v1 v2 v3 v4 v5 v6 v7 v8 hbs HI HS HNX HW0 HH0 r1 r2 r3 r4 r5 hlk HB5 HWl
  have HBS := Lib.hid hbs
  clear hbs
  subst hkind
  go_enter Tryd.func21, Tryd.ntmps21
  go_upto_region 34 with (fail)
  rw [← hW]
  clear hW
  obtain ⟨x0, x1, x2, x3, x4, x5, x6, x7, x8⟩ := HX5.out
  go_upto_region 35 with (go_at_call 33; refine CP1.out.mono ?_; rintro e wp ⟨rfl, h1, h2⟩; have HIP := Lib.hid h1; have HWP := Lib.hid h2; clear h1 h2)
  have hd0 := Below.drew (Below.refl wp.heap.size wp)
  have HI6 := Lib.hid (HIP.out.next hd0)
  have HW6 := Lib.hid (HWP.out.trans (Wrote.of hd0 (Nat.le_of_lt HIP.out.lt)))
  have hlk2 := HLK.out wp HWP.out
  have hnc := HIP.out.names
  clear x0 x1 x2 x3 x4 x5 x6 x7 x8 v0 v1 v2 v3 v4 v5 v6 v7 v8 r1 r2 r3 r4 r5 hlk
  obtain ⟨x0, x1, x2, x3, x4, x5, x6, x7, x8⟩ := HXK.out wp HWP.out
  obtain ⟨kb, ko, _, hA, hkb, c0, c1, c2, c3, c4, c5, c6, c7⟩ := HKC.out wp HWP.out
  subst hA
  clear hd0
  go_region
  all_goals
    go_wp2_with (first
      | (go_at_call 21; refine (C21.out wp.drew HI6.out HW6.out).mono ?_; rintro e wq ⟨rfl, h1, h2⟩; have HI7 := Lib.hid h1; have HW7 := Lib.hid h2; clear h1 h2)
      | (go_at_call 33; refine (CP3.out _ HI7.out).mono ?_; rintro e wz ⟨rfl, h1, h2⟩; have H1 := Lib.hid h1; have H2 := Lib.hid h2; clear h1 h2))
    go_end0
    exact ⟨rfl, by have h := H1.out; rw [HEND.out] at h; exact h, HW5.out.trans (HW6.out.trans (HW7.out.trans H2.out))⟩
set_option maxRecDepth 100000 in
set_option maxHeartbeats 8000000 in
theorem node_grp_11_named (b g : Nat) (nm : Int → List UInt8) (t : Tr) (ih : ∀ k ∈ t.kids, Law21 b g nm k) (hk : t.kind = 11) (h1k : t.kids.length = 1) (hnum : 0 ≤ t.num ∧ t.num ≤ 20) (hnm : nm t.num ≠ []) : Law21 b g nm t := by
  intro bs d w h hn hs hlen
  have hlt := h.lt
  have HB0 := Lib.hid (ND.box_below w d)
  have HX0 := Lib.hid (BoxN.new w d)
  have hbs := ND.box_size w d
  have HI := Lib.hid (h.next HB0.out)
  have HS := Lib.hid (hs.below HB0.out (Nat.le_of_lt hlt))
  have HNX := Lib.hid (hn.under (HB0.out.mono (Nat.le_of_lt hlt)))
  have HW0 := Lib.hid (Wrote.of (b := b) HB0.out (Nat.le_of_lt hlt))
  have HH0 := Lib.hid (box_heap w d)
  have hbne : w.heap.size ≠ b := by omega
  obtain ⟨ds, hd⟩ := hn.of
  have HD := Lib.hid hd
  obtain ⟨W, hW⟩ : ∃ W, W = d.box w := ⟨_, rfl⟩
  have hkind := hd.kind
  have hmm := @run_makeMap Tryd.prog
  obtain ⟨k0, d0, hkids, hn0, hkn, hrd⟩ := node_kid0 HNX.out h1k
  rw [← hd.num] at hnm
  have HT := Lib.hid (show showT nm t = [40] ++ ([63, 60] ++ nm d.num ++ [62]) ++ showT nm k0 ++ [41] by rw [showT_eq]; unfold showK; rw [if_neg (by omega), if_neg (by omega), if_neg (by omega), if_neg (by omega), if_neg (by omega), if_neg (by omega), if_pos (by omega), hkids, hk]; unfold markT; rw [if_pos rfl, ← hd.num, if_neg hnm]; rfl)
  rw [HT.out] at hlen ⊢
  simp only [List.length_append, List.length_cons, List.length_nil] at hlen
  rw [← hd.num] at hnum
  have HM0 := Lib.hid (World.ownsMap_made (H := Unit) (d.box w) Tryd.prog 3 ps)
  obtain ⟨w1, r1, o1, g1⟩ := insS HM0.out (by unfold maxLen; omega) 13 (by decide) ⟨#[63, 62]⟩ (by unfold maxLen; decide)
  obtain ⟨w2, r2, o2, g2⟩ := insS o1 (by unfold maxLen; omega) 14 (by decide) ⟨#[63, 61]⟩ (by unfold maxLen; decide)
  obtain ⟨w3, r3, o3, g3⟩ := insS o2 (by unfold maxLen; omega) 15 (by decide) ⟨#[63, 33]⟩ (by unfold maxLen; decide)
  obtain ⟨w4, r4, o4, g4⟩ := insS o3 (by unfold maxLen; omega) 16 (by decide) ⟨#[63, 60, 61]⟩ (by unfold maxLen; decide)
  obtain ⟨w5, r5, o5, g5⟩ := insS o4 (by unfold maxLen; omega) 17 (by decide) ⟨#[63, 60, 33]⟩ (by unfold maxLen; decide)
  have hlk := lookS o5 11 (by decide) (l := []) rfl
  have s0 : ((d.box w).alloc (.map #[] 0)).heap.size = (d.box w).heap.size + 1 := by simp
  have B1 : Below (d.box w).heap.size (d.box w) w1 := Below.grown ((Below.refl _ _).alloc (Nat.le_refl _) _) g1 (by omega) (fun k hk => by cases hk; exact Nat.le_refl _)
  have B2 : Below (d.box w).heap.size (d.box w) w2 := B1.grown g2 B1.size (fun k hk => by cases hk; exact Nat.le_refl _)
  have B3 : Below (d.box w).heap.size (d.box w) w3 := B2.grown g3 B2.size (fun k hk => by cases hk; exact Nat.le_refl _)
  have B4 : Below (d.box w).heap.size (d.box w) w4 := B3.grown g4 B3.size (fun k hk => by cases hk; exact Nat.le_refl _)
  have B5 : Below (d.box w).heap.size (d.box w) w5 := B4.grown g5 B4.size (fun k hk => by cases hk; exact Nat.le_refl _)
  have HB5 := Lib.hid B5
  have HX5 := Lib.hid (HX0.out.next B5)
  have HWl := Lib.hid (show b ≤ (d.box w).heap.size by rw [hbs]; omega)
  have HH5 := Lib.hid (show ∃ cs fr, w5.heap[w.heap.size]? = some (.cells cs 25 fr) by
    obtain ⟨cs, fr, e⟩ := HH0.out
    exact ⟨cs, fr, by rw [B5.block _ (by rw [hbs]; omega)]; exact e⟩)
  have HI5 := Lib.hid (HI.out.next B5)
  have CP1 := Lib.hid (putT b g bs [[40], []] w5 HI5.out (by show _ + 1 ≤ _; omega))
  have HW5 := Lib.hid (HW0.out.trans (Wrote.of B5 HWl.out))
  have HS5 := Lib.hid (hs.wrote HW5.out)
  have HN5 := Lib.hid (hn0.under (B5.mono HWl.out))
  have HK5 := Lib.hid (hrd.below (B5.mono HWl.out) (Nat.le_refl _))
  have CP2 := Lib.hid (fun (wq : World) (h : IsWr b g (bs ++ Lib.byteCells [40]) wq) => putT b g (bs ++ Lib.byteCells [40]) [[63, 60], nm d.num, [62]] wq h (by rw [List.length_append, byteCells_len]; simp only [List.flatten_cons, List.flatten_nil, List.append_nil, List.length_append, List.length_cons, List.length_nil]; omega) (by simp))
  have C21 := Lib.hid (fun (wq : World) (h : IsWr b g ((bs ++ Lib.byteCells [40]) ++ Lib.byteCells ([63, 60] ++ (nm d.num ++ [62]))) wq) (hb : Wrote b w5 wq) => ih k0 (by rw [hkids]; simp) ((bs ++ Lib.byteCells [40]) ++ Lib.byteCells ([63, 60] ++ (nm d.num ++ [62]))) d0 wq h (HN5.out.under hb.below) (HS5.out.wrote hb) (by simp only [List.length_append, byteCells_len, List.length_cons, List.length_nil]; omega))
  have CP3 := Lib.hid (fun (wq : World) (h : IsWr b g (((bs ++ Lib.byteCells [40]) ++ Lib.byteCells ([63, 60] ++ (nm d.num ++ [62]))) ++ Lib.byteCells (showT nm k0)) wq) => putT b g (((bs ++ Lib.byteCells [40]) ++ Lib.byteCells ([63, 60] ++ (nm d.num ++ [62]))) ++ Lib.byteCells (showT nm k0)) [[41]] wq h (by simp only [List.flatten_cons, List.flatten_nil, List.append_nil, List.length_append, byteCells_len, List.length_cons, List.length_nil]; omega))
  have HEND := Lib.hid (show (((bs ++ Lib.byteCells [40]) ++ Lib.byteCells ([63, 60] ++ (nm d.num ++ [62]))) ++ Lib.byteCells (showT nm k0)) ++ Lib.byteCells [41] = bs ++ Lib.byteCells ([40] ++ ([63, 60] ++ nm d.num ++ [62]) ++ showT nm k0 ++ [41]) by simp only [byteCells_app, List.append_assoc]; try rfl)
  have HKC := Lib.hid (fun (wq : World) (hb : Wrote b w5 wq) => by
    have h := (HK5.out.below hb.below (Nat.le_refl _)).node_at hkn
    simp only [List.getElem_cons_zero, Nat.zero_mul, Nat.add_zero] at h
    exact h)
  have HLK := Lib.hid (fun (wq : World) (hb : Wrote b w5 wq) => ((HS5.out.wrote hb).below (Below.drew (Below.refl b wq)) (Nat.le_refl _)).names.look d.num (by exact WalkArith.wf_i64 (by omega)))
  have HXK := Lib.hid (fun (wq : World) (hb : Wrote b w5 wq) => HX5.out.kept hb HH5.out hbne)
  simp only [List.map_cons, List.map_nil, List.length_cons, List.length_nil, Nat.zero_add, Nat.reduceAdd, List.flatten_cons, List.flatten_nil, List.append_nil, List.cons_append, List.nil_append] at CP1 CP2 CP3
  clear o1 o2 o3 o4 o5 g1 g2 g3 g4 g5 B1 B2 B3 B4 B5 s0 HM0
  rw [hk] at hkind
  clear h hn hs hd hlen hk hn0 hrd hkids ih
  obtain ⟨dk, dsA, dsn, dsc, dkA, dkn, dkc, dnum, dleast, dmost, dway, dfold⟩ := d
  unfold ND.agg at C21 ⊢
  unfold ND.box at hW hbs HX0 HI HS HNX HW0 HH0 r1 r2 r3 r4 r5 hlk HB5 HWl
  simp only at hbs HX0 HI HS HNX HW0 HH0 HD hkind r1 r2 r3 r4 r5 hlk hnum C21 CP1 CP3 HEND HKC HLK HXK CP2 hnm ⊢
  obtain ⟨v0, v1, v2, v3, v4, v5, v6, v7, v8⟩ := HX0.out
  rw [← hW] at v0 v1 v2 v3 v4 v5 v6 v7 v8 hbs HI HS HNX HW0 HH0 r1 r2 r3 r4 r5 hlk HB5 HWl
  have HBS := Lib.hid hbs
  clear hbs
  subst hkind
  go_enter Tryd.func21, Tryd.ntmps21
  go_upto_region 34 with (fail)
  rw [← hW]
  clear hW
  obtain ⟨x0, x1, x2, x3, x4, x5, x6, x7, x8⟩ := HX5.out
  go_upto_region 35 with (go_at_call 33; refine CP1.out.mono ?_; rintro e wp ⟨rfl, h1, h2⟩; have HIP := Lib.hid h1; have HWP := Lib.hid h2; clear h1 h2)
  have hd0 := Below.drew (Below.refl wp.heap.size wp)
  have HI6 := Lib.hid (HIP.out.next hd0)
  have HW6 := Lib.hid (HWP.out.trans (Wrote.of hd0 (Nat.le_of_lt HIP.out.lt)))
  have hlk2 := HLK.out wp HWP.out
  have hnc := HIP.out.names
  clear x0 x1 x2 x3 x4 x5 x6 x7 x8 v0 v1 v2 v3 v4 v5 v6 v7 v8 r1 r2 r3 r4 r5 hlk
  obtain ⟨x0, x1, x2, x3, x4, x5, x6, x7, x8⟩ := HXK.out wp HWP.out
  obtain ⟨kb, ko, _, hA, hkb, c0, c1, c2, c3, c4, c5, c6, c7⟩ := HKC.out wp HWP.out
  subst hA
  clear hd0
  have HXD := Lib.hid (fun (wq : World) (hb : Wrote b wp.drew wq) => HXK.out wq (HW6.out.trans hb))
  have HKD := Lib.hid (fun (wq : World) (hb : Wrote b wp.drew wq) => HKC.out wq (HW6.out.trans hb))
  have hq : (nm dnum).isEmpty = false := by simpa using hnm
  have C2 := CP2.out wp.drew HI6.out
  rw [show wp.drew.alloc (.cells #[.string ⟨#[63, 60]⟩, .string ⟨(nm dnum).toArray⟩, .string ⟨#[62]⟩] 9) = (wp.alloc (.cells #[.string ⟨#[63, 60]⟩, .string ⟨(nm dnum).toArray⟩, .string ⟨#[62]⟩] 9)).drew from rfl, show wp.drew.heap.size = wp.heap.size from rfl] at C2
  have C2 := Lib.hid C2
  clear hnm
  go_region
  all_goals
    go_wp2_with (first
      | (go_at_call 33; (with_reducible refine C2.out.mono ?_); rintro e wr ⟨rfl, h1, h2⟩; have HIR := Lib.hid h1; have HWR := Lib.hid (HW6.out.trans h2); clear x0 x1 x2 x3 x4 x5 x6 x7 x8 c0 c1 c2 c3 c4 c5 c6 c7; obtain ⟨x0, x1, x2, x3, x4, x5, x6, x7, x8⟩ := HXK.out wr HWR.out; obtain ⟨kb2, ko2, _, hA2, hkb2, c0, c1, c2, c3, c4, c5, c6, c7⟩ := HKC.out wr HWR.out; injection hA2 with hA3; injection hA3 with hA4 hA5; subst hA4 hA5; clear h1 h2)
      | (go_at_call 21; refine (C21.out wr HIR.out HWR.out).mono ?_; rintro e wq ⟨rfl, h1, h2⟩; have HI7 := Lib.hid h1; have HW7 := Lib.hid h2; clear h1 h2)
      | (go_at_call 33; refine (CP3.out _ HI7.out).mono ?_; rintro e wz ⟨rfl, h1, h2⟩; have H1 := Lib.hid h1; have H2 := Lib.hid h2; clear h1 h2))
    go_end0
    exact ⟨rfl, Eq.mp (congrArg (fun l => IsWr b g l wz) HEND.out) H1.out, HW5.out.trans (HWR.out.trans (HW7.out.trans H2.out))⟩
end Go.Proofs.YtbekjfoefjnidaaDoor
namespace Go.Proofs.YtbekjfoefjnidaaDoor
open Go.RowKit
set_option linter.unusedVariables false
theorem rowT_take (L : List (Int × List UInt8)) (k : Nat) (h : k < L.length) : rowT (L.take (k + 1)) = rowT (L.take k) ++ wrapT (L[k].1 == 10) L[k].2 := by
  rw [List.take_succ_eq_append_getElem h, rowT_append]; simp [rowT]
theorem rowT_take_len (L : List (Int × List UInt8)) (k : Nat) : (rowT (L.take k)).length ≤ (rowT L).length := by
  have : rowT L = rowT (L.take k) ++ rowT (L.drop k) := by rw [← rowT_append, List.take_append_drop]
  rw [this, List.length_append]; omega
theorem eithT_take (L : List (Int × List UInt8)) (k : Nat) (h : k < L.length) : eithT (L.take (k + 1)) = eithT (L.take k) ++ ((if k = 0 then [] else [124]) ++ L[k].2) := by
  rw [List.take_succ_eq_append_getElem h]
  by_cases h0 : k = 0
  · subst h0; simp [eithT, barT]
  · rw [eithT_snoc _ _ (by intro e; have := congrArg List.length e; rw [List.length_take, List.length_nil] at this; omega), if_neg h0]
theorem eithT_app_len (a b : List (Int × List UInt8)) : (eithT a).length ≤ (eithT (a ++ b)).length := by
  cases a with
  | nil => simp [eithT]
  | cons x a => rw [List.cons_append, eithT, eithT, barT_append]; simp
theorem eithT_take_len (L : List (Int × List UInt8)) (k : Nat) : (eithT (L.take k)).length ≤ (eithT L).length := by
  have := eithT_app_len (L.take k) (L.drop k)
  rwa [List.take_append_drop] at this
theorem showL_at (nm : Int → List UInt8) (ks : List Tr) (k : Nat) (h : k < ks.length) : ∃ h2 : k < (showL nm ks).length, (showL nm ks)[k] = (ks[k].kind, showT nm ks[k]) := by
  simp only [showL_map, List.length_map, List.getElem_map]
  exact ⟨h, trivial⟩
set_option maxRecDepth 100000 in
set_option maxHeartbeats 8000000 in
theorem node_row (b g : Nat) (nm : Int → List UInt8) (t : Tr) (ih : ∀ k ∈ t.kids, Law21 b g nm k) (hk : t.kind = 9) : Law21 b g nm t := by
  intro bs d w h hn hs hlen
  have hlt := h.lt
  have HB0 := Lib.hid (ND.box_below w d)
  have HX0 := Lib.hid (BoxN.new w d)
  have hbs := ND.box_size w d
  have HI := Lib.hid (h.next HB0.out)
  have HS := Lib.hid (hs.below HB0.out (Nat.le_of_lt hlt))
  have HNX := Lib.hid (hn.under (HB0.out.mono (Nat.le_of_lt hlt)))
  have HW0 := Lib.hid (Wrote.of (b := b) HB0.out (Nat.le_of_lt hlt))
  have HH0 := Lib.hid (box_heap w d)
  have hbne : w.heap.size ≠ b := by omega
  obtain ⟨ds, hd⟩ := hn.of
  have HD := Lib.hid hd
  obtain ⟨W, hW⟩ : ∃ W, W = d.box w := ⟨_, rfl⟩
  have hkind := hd.kind
  have HT := Lib.hid (show showT nm t = rowT (showL nm t.kids) by rw [showT_eq]; unfold showK; rw [if_neg (by omega), if_neg (by omega), if_pos hk])
  rw [HT.out] at hlen ⊢
  obtain ⟨L, hL⟩ : ∃ L, L = showL nm t.kids := ⟨_, rfl⟩
  rw [← hL] at hlen HT ⊢
  have HL := Lib.hid hL
  have HK := Lib.hid hd.knum
  have IH := Lib.hid ih
  have HLEN := Lib.hid hlen
  have hkc := hd.kc1
  have hkm := hd.kc2
  unfold maxLen at hkm
  have HLL := Lib.hid (show L.length = d.kn by rw [hL, showL_map, List.length_map]; exact hd.knum.1)
  rw [hk] at hkind
  clear h hn hs hd hlen hk hL ih
  obtain ⟨dk, dsA, dsn, dsc, dkA, dkn, dkc, dnum, dleast, dmost, dway, dfold⟩ := d
  unfold ND.agg
  unfold ND.box at hW hbs HX0 HI HS HNX HW0 HH0
  simp only at hbs HX0 HI HS HNX HW0 HH0 HD hkind HK HLL hkc hkm ⊢
  obtain ⟨v0, v1, v2, v3, v4, v5, v6, v7, v8⟩ := HX0.out
  rw [← hW] at v0 v1 v2 v3 v4 v5 v6 v7 v8 hbs HI HS HNX HW0 HH0
  have HBS := Lib.hid hbs
  clear hbs
  subst hkind
  have HBW := Lib.hid (HB0.out.mono (Nat.le_of_lt hlt))
  unfold ND.box at HBW HB0
  simp only at HBW HB0
  rw [← hW] at HBW HB0
  go_enter Tryd.func21, Tryd.ntmps21
  go_upto_region 8 with (fail)
  rw [← hW]
  clear hW
  go_wp2_with fail
  go_loopw [36] (fun i wr => ∃ k : Nat, k ≤ dkn ∧ i = .int .i64 k ∧ Hid (IsWr b g (bs ++ Lib.byteCells (rowT (L.take k))) wr) ∧ Hid (Wrote b W wr)) (fun i _ => dkn - (intOf i).toNat)
  case atStart => exact ⟨0, Nat.zero_le _, rfl, Lib.hid (by simpa [rowT, Lib.byteCells] using HI.out), Lib.hid (Wrote.refl _ _)⟩
  case round =>
    obtain ⟨k, hkn, rfl, HIR, HWR⟩ := hrel
    by_cases hlk : k < dkn
    · have hk1 : k < t.kids.length := by have := HK.out.1; omega
      have hk2 : k < ds.length := by have := HK.out.2; omega
      obtain ⟨hk3, hat⟩ := showL_at nm t.kids k hk1
      obtain ⟨b1, off, hl0, hA, hb1, c0, c1, c2, c3, c4, c5, c6, c7⟩ := ((HD.out.kids.below HBW.out (Nat.le_refl _)).below HWR.out.below (Nat.le_refl _)).node_at hlk
      have hnk := (HD.out.each.at k hk1 hk2).under (HBW.out.trans HWR.out.below)
      have hlaw := IH.out t.kids[k] (List.getElem_mem hk1)
      have hkk : (ds[k]).kind = t.kids[k].kind := by obtain ⟨_, h⟩ := hnk.of; exact h.kind
      have hTK : rowT (L.take (k + 1)) = rowT (L.take k) ++ wrapT ((ds[k]).kind == 10) (showT nm t.kids[k]) := by
        have hk4 : k < L.length := by rw [HL.out]; exact hk3
        have hat2 : L[k] = (t.kids[k].kind, showT nm t.kids[k]) := by simp only [HL.out]; exact hat
        rw [rowT_take L k hk4, hat2, ← hkk]
      obtain ⟨x, hx⟩ : ∃ x, x = showT nm t.kids[k] := ⟨_, rfl⟩
      have hll := rowT_take_len L (k + 1)
      rw [hTK] at hll
      have HLL2 := Lib.hid hll
      have HTK := Lib.hid hTK
      clear hll hTK hat hk3
      have hltr : b < wr.heap.size := HIR.out.lt
      have hsc := HS.out.wrote HWR.out
      have C35 := Lib.hid (wrapped35 b g nm t.kids[k] hlaw (bs ++ Lib.byteCells (rowT (L.take k))) ds[k] ((ds[k]).kind == 10) ((ds[k]).box wr) (HIR.out.next (ND.box_below wr _)) (hnk.under ((ND.box_below wr _).mono (Nat.le_of_lt hltr))) (hsc.below (ND.box_below wr _) (Nat.le_of_lt hltr)) (by rw [List.length_append, byteCells_len]; have h1 := HLEN.out; have h2 := HLL2.out; rw [List.length_append] at h2; omega))
      have HWB := Lib.hid (Wrote.of (b := b) (ND.box_below wr ds[k]) (Nat.le_of_lt hltr))
      rw [← hx] at HTK HLL2 C35
      clear hx hnk hlaw hkk hsc HLL2 hltr
      obtain ⟨e, he⟩ : ∃ e, e = ds[k] := ⟨_, rfl⟩
      rw [← he] at c0 c1 c2 c3 c4 c5 c6 c7 HWB C35 HTK
      clear he
      obtain ⟨ek, esA, esn, esc, ekA, ekn, ekc, enum, eleast, emost, eway, efold⟩ := e
      subst hA
      unfold ND.box at HWB C35
      unfold ND.agg at C35
      simp only at c0 c1 c2 c3 c4 c5 c6 c7 HWB C35 HTK
      go_wp2_with (go_at_call 35; refine C35.out.mono ?_; rintro e wz ⟨rfl, h1, h2⟩; have H1 := Lib.hid h1; have H2 := Lib.hid h2; clear h1 h2)
      go_roundw
      case rel => exact ⟨k + 1, by omega, by go_num, Lib.hid (by have h := H1.out; rw [List.append_assoc, ← byteCells_app, ← HTK.out] at h; exact h), Lib.hid (HWR.out.trans (HWB.out.trans H2.out))⟩
      case measure => simp [intOf]; omega
    · obtain rfl : k = dkn := by omega
      go_wp2_with fail
      go_end0
      refine ⟨rfl, ?_, HW0.out.trans HWR.out⟩
      have h := HIR.out
      rw [List.take_of_length_le (by have := HLL.out; omega)] at h
      exact h
set_option maxRecDepth 100000 in
set_option maxHeartbeats 8000000 in
theorem node_either (b g : Nat) (nm : Int → List UInt8) (t : Tr) (ih : ∀ k ∈ t.kids, Law21 b g nm k) (hk : t.kind = 10) : Law21 b g nm t := by
  intro bs d w h hn hs hlen
  have hlt := h.lt
  have HB0 := Lib.hid (ND.box_below w d)
  have HX0 := Lib.hid (BoxN.new w d)
  have hbs := ND.box_size w d
  have HI := Lib.hid (h.next HB0.out)
  have HS := Lib.hid (hs.below HB0.out (Nat.le_of_lt hlt))
  have HNX := Lib.hid (hn.under (HB0.out.mono (Nat.le_of_lt hlt)))
  have HW0 := Lib.hid (Wrote.of (b := b) HB0.out (Nat.le_of_lt hlt))
  have HH0 := Lib.hid (box_heap w d)
  have hbne : w.heap.size ≠ b := by omega
  obtain ⟨ds, hd⟩ := hn.of
  have HD := Lib.hid hd
  obtain ⟨W, hW⟩ : ∃ W, W = d.box w := ⟨_, rfl⟩
  have hkind := hd.kind
  have HT := Lib.hid (show showT nm t = eithT (showL nm t.kids) by rw [showT_eq]; unfold showK; rw [if_neg (by omega), if_neg (by omega), if_neg (by omega), if_pos hk])
  rw [HT.out] at hlen ⊢
  obtain ⟨L, hL⟩ : ∃ L, L = showL nm t.kids := ⟨_, rfl⟩
  rw [← hL] at hlen HT ⊢
  have HL := Lib.hid hL
  have HK := Lib.hid hd.knum
  have IH := Lib.hid ih
  have HLEN := Lib.hid hlen
  have hkc := hd.kc1
  have hkm := hd.kc2
  unfold maxLen at hkm
  have HLL := Lib.hid (show L.length = d.kn by rw [hL, showL_map, List.length_map]; exact hd.knum.1)
  rw [hk] at hkind
  clear h hn hs hd hlen hk hL ih
  obtain ⟨dk, dsA, dsn, dsc, dkA, dkn, dkc, dnum, dleast, dmost, dway, dfold⟩ := d
  unfold ND.agg
  unfold ND.box at hW hbs HX0 HI HS HNX HW0 HH0
  simp only at hbs HX0 HI HS HNX HW0 HH0 HD hkind HK HLL hkc hkm ⊢
  obtain ⟨v0, v1, v2, v3, v4, v5, v6, v7, v8⟩ := HX0.out
  rw [← hW] at v0 v1 v2 v3 v4 v5 v6 v7 v8 hbs HI HS HNX HW0 HH0
  have HBS := Lib.hid hbs
  clear hbs
  subst hkind
  have HBW := Lib.hid (HB0.out.mono (Nat.le_of_lt hlt))
  unfold ND.box at HBW HB0
  simp only at HBW HB0
  rw [← hW] at HBW HB0
  go_enter Tryd.func21, Tryd.ntmps21
  go_upto_region 14 with (fail)
  rw [← hW]
  clear hW
  go_wp2_with fail
  go_loopw [52] (fun i wr => ∃ k : Nat, k ≤ dkn ∧ i = .int .i64 k ∧ Hid (IsWr b g (bs ++ Lib.byteCells (eithT (L.take k))) wr) ∧ Hid (Wrote b W wr)) (fun i _ => dkn - (intOf i).toNat)
  case atStart => exact ⟨0, Nat.zero_le _, rfl, Lib.hid (by simpa [eithT, Lib.byteCells] using HI.out), Lib.hid (Wrote.refl _ _)⟩
  case round =>
    obtain ⟨k, hkn, rfl, HIR, HWR⟩ := hrel
    by_cases hlk : k < dkn
    · have hk1 : k < t.kids.length := by have := HK.out.1; omega
      have hk2 : k < ds.length := by have := HK.out.2; omega
      obtain ⟨hk3, hat⟩ := showL_at nm t.kids k hk1
      obtain ⟨b1, off, hl0, hA, hb1, c0, c1, c2, c3, c4, c5, c6, c7⟩ := ((HD.out.kids.below HBW.out (Nat.le_refl _)).below HWR.out.below (Nat.le_refl _)).node_at hlk
      have hnk := (HD.out.each.at k hk1 hk2).under (HBW.out.trans HWR.out.below)
      have hlaw := IH.out t.kids[k] (List.getElem_mem hk1)
      have hkk : (ds[k]).kind = t.kids[k].kind := by obtain ⟨_, h⟩ := hnk.of; exact h.kind
      have hTK : eithT (L.take (k + 1)) = eithT (L.take k) ++ ((if k = 0 then [] else [124]) ++ showT nm t.kids[k]) := by
        have hk4 : k < L.length := by rw [HL.out]; exact hk3
        have hat2 : L[k] = (t.kids[k].kind, showT nm t.kids[k]) := by simp only [HL.out]; exact hat
        rw [eithT_take L k hk4, hat2, ← hkk]
      obtain ⟨x, hx⟩ : ∃ x, x = showT nm t.kids[k] := ⟨_, rfl⟩
      have hll := eithT_take_len L (k + 1)
      rw [hTK] at hll
      have HLL2 := Lib.hid hll
      have HTK := Lib.hid hTK
      clear hll hTK hat hk3
      have hltr : b < wr.heap.size := HIR.out.lt
      have hsc := HS.out.wrote HWR.out
      have CPB := Lib.hid (putT b g (bs ++ Lib.byteCells (eithT (L.take k))) [[124]] ((ds[k]).box wr) (HIR.out.next (ND.box_below wr _)) (by rw [List.length_append, byteCells_len]; have h1 := HLEN.out; have h2 := eithT_take_len L k; show _ + 1 ≤ _; omega))
      simp only [List.map_cons, List.map_nil, List.length_cons, List.length_nil, Nat.zero_add, List.flatten_cons, List.flatten_nil, List.append_nil, ND.box_size] at CPB
      have C21 := Lib.hid (fun (wq : World) (pre : List UInt8) (hpre : pre = if k = 0 then [] else [124]) (h : IsWr b g (bs ++ Lib.byteCells (eithT (L.take k)) ++ Lib.byteCells pre) wq) (hb : Wrote b ((ds[k]).box wr) wq) => hlaw (bs ++ Lib.byteCells (eithT (L.take k)) ++ Lib.byteCells pre) ds[k] wq h ((hnk.under ((ND.box_below wr _).mono (Nat.le_of_lt hltr))).under hb.below) ((hsc.below (ND.box_below wr _) (Nat.le_of_lt hltr)).wrote hb) (by simp only [List.length_append, byteCells_len]; have h1 := HLEN.out; have h2 := HLL2.out; simp only [List.length_append] at h2; rw [← hpre] at h2; omega))
      have HIB := Lib.hid (HIR.out.next (ND.box_below wr ds[k]))
      have HXB := Lib.hid (BoxN.new wr ds[k])
      have HHB := Lib.hid (box_heap wr ds[k])
      have HXK := Lib.hid (fun (wq : World) (hb : Wrote b ((ds[k]).box wr) wq) => HXB.out.kept hb HHB.out (by omega))
      have HWB := Lib.hid (Wrote.of (b := b) (ND.box_below wr ds[k]) (Nat.le_of_lt hltr))
      rw [← hx] at HTK HLL2 C21
      clear hx hnk hlaw hkk hsc HLL2 hltr
      obtain ⟨e, he⟩ : ∃ e, e = ds[k] := ⟨_, rfl⟩
      rw [← he] at c0 c1 c2 c3 c4 c5 c6 c7 HWB C21 CPB HIB HXK HXB HHB
      clear he
      obtain ⟨ek, esA, esn, esc, ekA, ekn, ekc, enum, eleast, emost, eway, efold⟩ := e
      subst hA
      unfold ND.box at HWB C21 CPB HIB HXK HXB HHB
      unfold ND.agg at C21
      simp only at c0 c1 c2 c3 c4 c5 c6 c7 HWB C21 CPB HIB HXK HXB HHB
      by_cases h0 : k = 0
      · subst h0
        simp only [Nat.zero_mul, Nat.add_zero] at c0 c1 c2 c3 c4 c5 c6 c7
        have C := Lib.hid (C21.out (wr.alloc (.cells #[.int .i64 ek, .slice esA esn esc, .slice ekA ekn ekc, .int .i64 enum, .int .i64 eleast, .int .i64 emost, .int .i64 eway, .bool efold] 25)) [] rfl (by rw [show Lib.byteCells [] = [] from rfl, List.append_nil]; exact HIB.out) (Wrote.refl _ _))
        go_wp2_with (go_at_call 21; refine C.out.mono ?_; rintro e wz ⟨rfl, h1, h2⟩; have H1 := Lib.hid h1; have H2 := Lib.hid h2; clear h1 h2)
        go_roundw
        case rel => exact ⟨1, by omega, by go_num, Lib.hid (by have h := H1.out; rw [show Lib.byteCells [] = [] from rfl, List.append_nil, List.append_assoc, ← byteCells_app] at h; rw [HTK.out]; simpa using h), Lib.hid (HWR.out.trans (HWB.out.trans H2.out))⟩
        case measure => simp [intOf]; omega
      · have hgt : 0 < k := by omega
        have HNZ := Lib.hid h0
        clear h0
        go_wp2_with (first
          | (go_at_call 33; refine CPB.out.mono ?_; rintro e wq ⟨rfl, h1, h2⟩; have HIQ := Lib.hid h1; have HWQ := Lib.hid h2; obtain ⟨x0, x1, x2, x3, x4, x5, x6, x7, x8⟩ := HXK.out wq h2; clear h1 h2)
          | (go_at_call 21; refine (C21.out wq [124] (by rw [if_neg HNZ.out]) HIQ.out HWQ.out).mono ?_; rintro e wz ⟨rfl, h1, h2⟩; have H1 := Lib.hid h1; have H2 := Lib.hid h2; clear h1 h2))
        go_roundw
        case rel => exact ⟨k + 1, by omega, by go_num, Lib.hid (by have h := H1.out; rw [List.append_assoc, List.append_assoc, ← byteCells_app, ← byteCells_app] at h; rw [HTK.out, if_neg HNZ.out]; exact h), Lib.hid (HWR.out.trans (HWB.out.trans (HWQ.out.trans H2.out)))⟩
        case measure => simp [intOf]; omega
    · obtain rfl : k = dkn := by omega
      go_wp2_with fail
      go_end0
      refine ⟨rfl, ?_, HW0.out.trans HWR.out⟩
      have h := HIR.out
      rw [List.take_of_length_le (by have := HLL.out; omega)] at h
      exact h
end Go.Proofs.YtbekjfoefjnidaaDoor
namespace Go.Proofs.YtbekjfoefjnidaaDoor
open Go.RowKit
set_option linter.unusedVariables false
/-- names as they are laid into a map: the last one of a number stays -/
def nmOf (ns : List (ByteArray × Int)) (n : Int) : List UInt8 := ns.foldl (fun a x => if x.2 = n then x.1.data.toList else a) []
theorem nmOf_snoc (ns : List (ByteArray × Int)) (x : ByteArray × Int) (n : Int) : nmOf (ns ++ [x]) n = if x.2 = n then x.1.data.toList else nmOf ns n := by simp [nmOf]
theorem nmOf_take (ns : List (ByteArray × Int)) (k : Nat) (h : k < ns.length) (n : Int) : nmOf (ns.take (k + 1)) n = if ns[k].2 = n then ns[k].1.data.toList else nmOf (ns.take k) n := by
  rw [List.take_succ_eq_append_getElem h, nmOf_snoc]
theorem nmOf_mem (ns : List (ByteArray × Int)) (n : Int) : nmOf ns n = [] ∨ ∃ x ∈ ns, nmOf ns n = x.1.data.toList := by
  have h : ∀ (l : List (ByteArray × Int)) (a : List UInt8), l.foldl (fun a x => if x.2 = n then x.1.data.toList else a) a = a ∨ ∃ x ∈ l, l.foldl (fun a x => if x.2 = n then x.1.data.toList else a) a = x.1.data.toList := by
    intro l
    induction l with
    | nil => intro a; exact .inl rfl
    | cons x l ih =>
      intro a
      rw [List.foldl_cons]
      rcases ih (if x.2 = n then x.1.data.toList else a) with h | ⟨y, hy, h⟩
      · rw [h]
        by_cases hx : x.2 = n
        · rw [if_pos hx]; exact .inr ⟨x, by simp, rfl⟩
        · rw [if_neg hx]; exact .inl rfl
      · exact .inr ⟨y, by simp [hy], h⟩
  exact h ns []
/-- the reference's way: what stands behind ( -/
def markN (ns : List (ByteArray × Int)) (n : Int) : List UInt8 := ns.foldl (fun a x => if x.2 = n then [63, 60] ++ x.1.data.toList ++ [62] else a) []
theorem markN_take (ns : List (ByteArray × Int)) (k : Nat) (h : k < ns.length) (n : Int) : markN (ns.take (k + 1)) n = if ns[k].2 = n then [63, 60] ++ ns[k].1.data.toList ++ [62] else markN (ns.take k) n := by
  rw [List.take_succ_eq_append_getElem h]
  unfold markN
  rw [List.foldl_append, List.foldl_cons, List.foldl_nil]
theorem markN_eq (ns : List (ByteArray × Int)) (n : Int) (hne : ∀ x ∈ ns, x.1.data.toList ≠ []) : markN ns n = markT 11 (nmOf ns n) := by
  have h : ∀ (l : List (ByteArray × Int)) (a : List UInt8), (∀ x ∈ l, x.1.data.toList ≠ []) → l.foldl (fun a x => if x.2 = n then [63, 60] ++ x.1.data.toList ++ [62] else a) (markT 11 a) = markT 11 (l.foldl (fun a x => if x.2 = n then x.1.data.toList else a) a) := by
    intro l
    induction l with
    | nil => intro a _; rfl
    | cons x l ih =>
      intro a hx
      rw [List.foldl_cons, List.foldl_cons]
      by_cases h : x.2 = n
      · rw [if_pos h, if_pos h, ← ih _ fun y hy => hx y (by simp [hy])]
        congr 1
        unfold markT
        rw [if_pos rfl, if_neg (hx x (by simp))]
      · rw [if_neg h, if_neg h]; exact ih _ fun y hy => hx y (by simp [hy])
  have := h ns [] hne
  rwa [show markT 11 [] = [] from rfl] at this
/-- a tree as Check lets it by -/
def Good (t : Tr) : Prop := ∀ x ∈ flatT t, rightE x = 0 ∧ (x.kind = 18 → 1 ≤ x.num ∧ x.num ≤ 20) ∧ (x.kind = 11 → 1 ≤ x.num ∧ x.num ≤ 20)
theorem Good.well {t : Tr} (h : Good t) : Well t := fun x hx => ⟨(h x hx).1, (h x hx).2.1⟩
theorem flat_kidS {t k x : Tr} (hk : k ∈ t.kids) (hx : x ∈ flatT k) : x ∈ flatT t := by
  rw [flatT_eq]
  refine List.mem_cons_of_mem _ ?_
  have : ∀ ks : List Tr, k ∈ ks → x ∈ flatL ks := by
    intro ks
    induction ks with
    | nil => intro h; cases h
    | cons y ks ih2 =>
      intro h
      rw [flatL, List.mem_append]
      rcases List.mem_cons.1 h with e | e
      · subst e; exact .inl hx
      · exact .inr (ih2 e)
  exact this _ hk
theorem Good.kid {t k : Tr} (h : Good t) (hk : k ∈ t.kids) : Good k := fun x hx => h x (flat_kidS hk hx)
theorem seqE_num (l : List Tr) (g : Int) (h : (seqE l g).1 = 0) : ∀ x ∈ l, x.kind = 11 → g < x.num ∧ x.num ≤ (seqE l g).2 := by
  induction l generalizing g with
  | nil => intro x hx; cases hx
  | cons y l ih =>
    rw [seqE] at h ⊢
    by_cases h1 : (stepE y g).1 ≠ 0
    · rw [if_pos h1] at h; exact absurd h h1
    · rw [if_neg h1] at h ⊢
      have hg := (seqE_groups l _ h).1
      have hst : (stepE y g).2 = g ∨ (stepE y g).2 = g + 1 := by unfold stepE; repeat' split
                                                                 all_goals simp
      intro x hx hk
      rcases List.mem_cons.1 hx with e | e
      · subst e
        unfold stepE at h1 hg h ⊢
        by_cases hr : rightE x ≠ 0
        · rw [if_pos hr] at h1; exact absurd hr (by simpa using h1)
        · rw [if_neg hr, if_pos hk] at h1 hg h ⊢
          by_cases hn : x.num = g + 1
          · rw [if_pos hn] at hg h ⊢
            simp only at hg h ⊢
            have : (0 : Int) ≤ (grpL l : Int) := by omega
            omega
          · rw [if_neg hn] at h1; simp at h1
      · have := ih _ h x e hk
        omega
theorem treeE_good {t : Tr} {gr : Int} (h : treeE t gr = 0) : Good t ∧ sizeT t ≤ 1000 := by
  unfold treeE at h
  split at h
  · cases h
  · rename_i hg
    split at h
    · rename_i h1; exact absurd h h1
    · rename_i h1
      have h1 : (seqE (flatT t) 0).1 = 0 := by simpa using h1
      split at h
      · cases h
      · rename_i h20
        split at h
        · cases h
        · split at h
          · cases h
          · rename_i ha
            have hs := seqE_groups _ _ h1
            have hn := seqE_num _ _ h1
            refine ⟨fun x hx => ⟨hs.2 x hx, fun hk => ?_, fun hk => ?_⟩, ?_⟩
            · unfold againsBad at ha
              simp only [Bool.not_eq_true, List.any_eq_false] at ha
              have := ha x hx
              simp [hk] at this
              omega
            · have := hn x hx hk; omega
            · unfold tooG at hg
              simp at hg
              omega
theorem rep_way {t : Tr} (h : rightE t = 0) (hk : t.kind = 12) : 1 ≤ t.way ∧ t.way ≤ 3 := by
  unfold rightE at h
  rw [if_neg (by omega)] at h
  split at h
  · cases h
  · rw [if_neg (by omega)] at h
    try rw [if_pos hk] at h
    unfold repE at h
    split at h
    · cases h
    · split at h
      · cases h
      · omega
theorem right_kind {t : Tr} (h : rightE t = 0) : 1 ≤ t.kind ∧ t.kind ≤ 18 ∧ kidsBad t = false ∧ fieldsBad t = false ∧ (t.kind = 2 → chk t.set = 0) := by
  unfold rightE at h
  split at h
  · cases h
  · split at h
    · cases h
    · rename_i h1 h2
      simp only [Bool.not_eq_true, Bool.or_eq_false_iff] at h2
      refine ⟨by omega, by omega, h2.1, h2.2, fun hk => ?_⟩
      try rw [if_pos hk] at h
      exact h
theorem one_kid {t : Tr} (h : rightE t = 0) (hk : 11 ≤ t.kind ∧ t.kind ≤ 17) : t.kids.length = 1 := by
  have := (right_kind h).2.2.1
  unfold kidsBad at this
  rw [if_neg (by omega), if_pos hk] at this
  simpa using this
theorem num_zero {t : Tr} (h : rightE t = 0) (h1 : t.kind ≠ 11) (h2 : t.kind ≠ 18) : t.num = 0 := by
  have := (right_kind h).2.2.2.1
  unfold fieldsBad at this
  simp only [Bool.or_eq_false_iff, Bool.and_eq_false_iff, bne_eq_false_iff_eq] at this
  omega
theorem names_good {gr : Int} {ns : List (ByteArray × Int)} (h : namesE gr ns = 0) : ∀ x ∈ ns, x.1.data.toList ≠ [] ∧ x.1.size ≤ 20 := by
  unfold namesE at h
  split at h
  · cases h
  · split at h
    · cases h
    · rename_i h1 h2
      simp only [Bool.not_eq_true, List.any_eq_false] at h2
      intro x hx
      have := h2 x hx
      have hn : NameB x.1 := by
        unfold isNm at this
        simpa using this
      have hsz := hn.2
      refine ⟨fun e => hsz.1 ?_, hsz.2⟩
      have : x.1.data.size = 0 := by rw [← Array.length_toList, e]; rfl
      exact this
theorem patE_good {t : Tr} {gr : Int} {ns : List (ByteArray × Int)} (h : patE t gr ns = 0) : (Good t ∧ sizeT t ≤ 1000) ∧ ∀ x ∈ ns, x.1.data.toList ≠ [] ∧ x.1.size ≤ 20 := by
  unfold patE at h
  split at h
  · rename_i ht; exact ⟨treeE_good ht, names_good h⟩
  · rename_i ht; exact absurd h ht
theorem nmOf_len {ns : List (ByteArray × Int)} (h : ∀ x ∈ ns, x.1.data.toList ≠ [] ∧ x.1.size ≤ 20) (n : Int) : (nmOf ns n).length ≤ 20 := by
  rcases nmOf_mem ns n with e | ⟨x, hx, e⟩
  · rw [e]; simp
  · rw [e]
    have := (h x hx).2
    rw [Array.length_toList]
    exact this
/-- node of show, whatever tree: what the document says -/
theorem node21 (b g : Nat) (nm : Int → List UInt8) (t : Tr) (h : Good t) : Law21 b g nm t := by
  refine tree_ind (P := fun t => Good t → Law21 b g nm t) (fun t ih h => ?_) t h
  have ih' : ∀ k ∈ t.kids, Law21 b g nm k := fun k hk => ih k hk (h.kid hk)
  obtain ⟨hr, h18, h11⟩ := h t (by rw [flatT_eq]; simp)
  obtain ⟨k1, k2, _, _, hset⟩ := right_kind hr
  by_cases e1 : t.kind = 1
  · exact node_empty b g nm t e1
  by_cases e2 : t.kind = 2
  · exact node_set34 b g nm t e2 (hset e2)
  by_cases e3 : t.kind ≤ 8
  · exact node_leaf b g nm t (by omega)
  by_cases e9 : t.kind = 9
  · exact node_row b g nm t ih' e9
  by_cases e10 : t.kind = 10
  · exact node_either b g nm t ih' e10
  by_cases e12 : t.kind = 12
  · have hb := rightE_rep hr e12
    exact node_repeat b g nm t ih' e12 (one_kid hr (by omega)) ⟨hb.1, hb.2.1⟩ hb.2.2 (rep_way hr e12)
  by_cases e18 : t.kind = 18
  · cases hf : t.fold
    · exact node_again_false b g nm t e18 (h18 e18) hf
    · exact node_again_true b g nm t e18 (h18 e18) hf
  have h1 := one_kid hr (by omega)
  by_cases e11 : t.kind = 11
  · by_cases hn : nm t.num = []
    · exact node_grp_11_bare b g nm t ih' e11 h1 (by have := h11 e11; omega) hn
    · exact node_grp_11_named b g nm t ih' e11 h1 (by have := h11 e11; omega) hn
  have h0 := num_zero hr e11 e18
  have h0' : 0 ≤ t.num ∧ t.num ≤ 20 := by omega
  by_cases e13 : t.kind = 13
  · exact node_grp_13 b g nm t ih' e13 h1 h0'
  by_cases e14 : t.kind = 14
  · exact node_grp_14 b g nm t ih' e14 h1 h0'
  by_cases e15 : t.kind = 15
  · exact node_grp_15 b g nm t ih' e15 h1 h0'
  by_cases e16 : t.kind = 16
  · exact node_grp_16 b g nm t ih' e16 h1 h0'
  exact node_grp_17 b g nm t ih' (by omega) h1 h0'
end Go.Proofs.YtbekjfoefjnidaaDoor
namespace Go.Proofs.YtbekjfoefjnidaaDoor
open Go.RowKit Go.Maps
set_option linter.unusedVariables false
theorem rngT_ne (r : Int × Int) : rngT r ≠ [] := by simp [rngT]
theorem showT_ne (nm : Int → List UInt8) (t : Tr) (h : Good t) : showT nm t ≠ [] := by
  refine tree_ind (P := fun t => Good t → showT nm t ≠ []) (fun t ih h => ?_) t h
  obtain ⟨hr, _, _⟩ := h t (by rw [flatT_eq]; simp)
  have hkb := (right_kind hr).2.2.1
  rw [showT_eq]
  unfold showK
  split
  · simp
  split
  · unfold setT; split <;> simp
  split
  · rename_i h9
    unfold kidsBad at hkb
    rw [if_pos (.inl h9)] at hkb
    match hk : t.kids with
    | [] => rw [hk] at hkb; simp at hkb
    | k :: ks =>
      have := ih k (by rw [hk]; simp) (h.kid (by rw [hk]; simp))
      rw [showL, rowT]
      simp only [wrapT]
      split <;> simp [this]
  split
  · rename_i h9
    unfold kidsBad at hkb
    rw [if_pos (.inr h9)] at hkb
    match hk : t.kids with
    | [] => rw [hk] at hkb; simp at hkb
    | k :: ks =>
      have := ih k (by rw [hk]; simp) (h.kid (by rw [hk]; simp))
      rw [showL, eithT]
      simp [this]
  split
  · unfold repT; simp
  split
  · unfold againT; split <;> simp
  split
  · simp
  · unfold leafT; repeat' split
    all_goals simp
/-- what Show answers -/
noncomputable def showP (t : Tr) (gr : Int) (ns : List (ByteArray × Int)) : List UInt8 := if patE t gr ns = 0 then showT (nmOf ns) t else []
/-- the map while names are laid into it -/
def NmMapK (g k : Nat) (nm : Int → List UInt8) (w : World) : Prop := ∃ D : DataW Unit, w.ownsMap (H := Unit) Tryd.prog 3 ps g k D ∧ ∀ n : Int, (Lit.int .i64 n).wf = true → D.atKey (.int .i64 n) (.lit (.string [])) = .lit (.string (nm n))
theorem NmMapK.new (w : World) : NmMapK w.heap.size 0 (nmOf []) (w.alloc (.map #[] 0)) := ⟨_, World.ownsMap_made (H := Unit) w Tryd.prog 3 ps, fun n hn => rfl⟩
theorem NmMapK.put {g k : Nat} {ns : List (ByteArray × Int)} {w : World} (h : NmMapK g k (nmOf (ns.take k)) w) (hk : k < ns.length) (hkm : k < maxLen) (hwf : (Lit.int .i64 ns[k].2).wf = true) (hs : ns[k].1.size ≤ maxLen) :
    ∃ w', (Instr.mapUpdate 52 (.map (some g)) (.int .i64 ns[k].2) (.string ns[k].1)).run Tryd.prog w = .ok () w' ∧ NmMapK g (k + 1) (nmOf (ns.take (k + 1))) w' ∧ w.grownBy w' (some g) := by
  obtain ⟨D, h1, h2⟩ := h
  obtain ⟨w', r, o, gr⟩ := insS h1 hkm ns[k].2 hwf ns[k].1 hs
  refine ⟨w', r, ⟨_, o, fun n hn => ?_⟩, gr⟩
  rw [nmOf_take ns k hk]
  by_cases e : ns[k].2 = n
  · rw [if_pos e, ← e]
    exact atKey_put_same h1.isMap (by simp [WideAt.IsKeyLit]) _ _
  · rw [if_neg e, atKey_put_other (by intro h; injection h with _ h; exact e h.symm)]
    exact h2 n hn
theorem NmMapK.to {g k : Nat} {nm : Int → List UInt8} {w : World} (h : NmMapK g k nm w) : NmMap g nm w := by
  obtain ⟨D, h1, h2⟩ := h
  exact ⟨k, D, h1, h2⟩
theorem NmMapK.below {g k B : Nat} {nm : Int → List UInt8} {w w' : World} (h : NmMapK g k nm w) (hb : Below B w w') (hB : g < B) : NmMapK g k nm w' := by
  obtain ⟨D, ⟨es, clock, h1, h2⟩, h3⟩ := h
  exact ⟨D, ⟨es, clock, by rw [hb.block g hB]; exact h1, h2⟩, h3⟩
set_option maxRecDepth 100000 in
set_option maxHeartbeats 8000000 in
theorem show9_bad (t : Tr) (d : ND) (gr : Int) (nA : Option Addr) (nn nc : Nat) (ns : List (ByteArray × Int)) (w : World) (hn : NodeAt w w.heap.size t d) (hl : NamesAt w w.heap.size nA nn ns) (hnc : nn ≤ nc) (hcm : nc ≤ maxLen) (hnm : nn < maxLen) (hp : patE t gr ns ≠ 0) :
    Calls Tryd.prog 9 #[patV d gr nA nn nc] w fun e w' => e = .returned (.tuple #[.string ⟨(showP t gr ns).toArray⟩, .int .i64 (patE t gr ns)]) ∧ Below w.heap.size w w' := by
  have HP := Lib.hid (PatN.new w d gr nA nn nc)
  have HB := Lib.hid (patB_below w d gr nA nn nc)
  have C7 := Lib.hid (check27 t d gr nA nn nc ns (patB w d gr nA nn nc) (NodeAt.map (fun r => (r.below HB.out (Nat.le_refl _)).more HB.out.size) _ _ hn) ((hl.below HB.out (Nat.le_refl _)).more HB.out.size) hnc hcm hnm)
  have HS := Lib.hid (show showP t gr ns = [] by unfold showP; rw [if_neg hp])
  clear hn hl
  rw [HS.out]
  obtain ⟨er, her⟩ : ∃ x, x = patE t gr ns := ⟨_, rfl⟩
  rw [← her] at C7 hp ⊢
  clear her HS
  obtain ⟨dk, dsA, dsn, dsc, dkA, dkn, dkc, dnum, dleast, dmost, dway, dfold⟩ := d
  unfold patV at C7 ⊢
  unfold patB at HP HB C7
  simp only at HP HB C7 ⊢
  obtain ⟨⟨x0, x1, x2, x3, x4, x5, x6, x7, x8⟩, x9, x10⟩ := HP.out
  have e1 : (er == 0) = false := by simpa using hp
  have e2 : (er != 0) = true := by simpa using hp
  go_enter Tryd.func9, Tryd.ntmps9
  go_wp2_with (go_at_call 7; refine C7.out.mono ?_; rintro e w1 ⟨rfl, hb⟩; have HB1 := Lib.hid (below_next HB.out hb); clear hb)
  go_ret2
  exact ⟨rfl, HB1.out⟩
set_option maxRecDepth 100000 in
set_option maxHeartbeats 8000000 in
theorem show9_ok (t : Tr) (d : ND) (gr : Int) (nA : Option Addr) (nn nc : Nat) (ns : List (ByteArray × Int)) (w : World) (ht : Tabs w) (hn : NodeAt w w.heap.size t d) (hl : NamesAt w w.heap.size nA nn ns) (hnc : nn ≤ nc) (hcm : nc ≤ maxLen) (hnm : nn < maxLen) (hp : patE t gr ns = 0) :
    Calls Tryd.prog 9 #[patV d gr nA nn nc] w fun e w' => e = .returned (.tuple #[.string ⟨(showP t gr ns).toArray⟩, .int .i64 (patE t gr ns)]) ∧ Below w.heap.size w w' := by
  have hmm := @run_makeMap Tryd.prog
  have HP := Lib.hid (PatN.new w d gr nA nn nc)
  have HB := Lib.hid (patB_below w d gr nA nn nc)
  have C7 := Lib.hid (check27 t d gr nA nn nc ns (patB w d gr nA nn nc) (NodeAt.map (fun r => (r.below HB.out (Nat.le_refl _)).more HB.out.size) _ _ hn) ((hl.below HB.out (Nat.le_refl _)).more HB.out.size) hnc hcm hnm)
  have HS := Lib.hid (show showP t gr ns = showT (nmOf ns) t by unfold showP; rw [if_pos hp])
  obtain ⟨hg, hns⟩ := patE_good hp
  have HG := Lib.hid hg
  have HNE := Lib.hid (showT_ne (nmOf ns) t hg.1)
  have HLEN := Lib.hid (show (showT (nmOf ns) t).length ≤ 9000000 by have := showT_len (nmOf ns) (nmOf_len hns) t hg.1.well; have := hg.2; omega)
  have HT := Lib.hid ht
  have HN := Lib.hid hn
  have HL := Lib.hid hl
  have hnl := hl.len
  have HNL := Lib.hid hnl
  have hw2 : 2 < w.heap.size := ht.1.2
  rw [HS.out, hp]
  rw [hp] at C7
  clear hp hg hns ht hn hl hnl
  obtain ⟨x, hx⟩ : ∃ x, x = showT (nmOf ns) t := ⟨_, rfl⟩
  have C21 := Lib.hid (fun (b g : Nat) (w' : World) => node21 b g (nmOf ns) t HG.out.1 [] d w')
  unfold Puts at C21
  rw [← hx] at HS HNE HLEN C21 ⊢
  clear hx
  obtain ⟨dk, dsA, dsn, dsc, dkA, dkn, dkc, dnum, dleast, dmost, dway, dfold⟩ := d
  unfold patV at C7 ⊢
  unfold ND.agg at C21
  unfold patB at HP HB C7
  simp only at HP HB C7 C21 ⊢
  obtain ⟨⟨x0, x1, x2, x3, x4, x5, x6, x7, x8⟩, x9, x10⟩ := HP.out
  go_enter Tryd.func9, Tryd.ntmps9
  go_upto_region 4 with (go_at_call 7; refine C7.out.mono ?_; rintro e w1 ⟨rfl, hb⟩; have HB1 := Lib.hid (below_next HB.out hb); have HP1 := Lib.hid (HP.out.next hb); clear x0 x1 x2 x3 x4 x5 x6 x7 x8 x9 x10; obtain ⟨⟨x0, x1, x2, x3, x4, x5, x6, x7, x8⟩, x9, x10⟩ := HP1.out; clear hb)
  have hlt := HP1.out.1.1
  have hs1 : (w1.alloc (.map #[] 0)).heap.size = w1.heap.size + 1 := by simp
  have HB2 := Lib.hid ((Below.refl w1.heap.size w1).alloc (Nat.le_refl _) (.map #[] 0))
  have HB3 := Lib.hid (HB2.out.alloc HB2.out.size (.cells #[.pointer none, .slice none 0 0, .map (some w1.heap.size)] 58))
  have HP3 := Lib.hid (HP1.out.next HB3.out)
  have HM3 := Lib.hid ((NmMapK.new w1).below (Below.alloc (Below.refl (w1.heap.size + 1) _) (by rw [hs1]; exact Nat.le_refl _) (.cells #[.pointer none, .slice none 0 0, .map (some w1.heap.size)] 58)) (Nat.lt_succ_self _))
  have HW3 := Lib.hid (heap_alloc_new (w1.alloc (.map #[] 0)) (.cells #[.pointer none, .slice none 0 0, .map (some w1.heap.size)] 58))
  rw [hs1] at HW3
  have hs3 : ((w1.alloc (.map #[] 0)).alloc (.cells #[.pointer none, .slice none 0 0, .map (some w1.heap.size)] 58)).heap.size = w1.heap.size + 2 := by simp
  have HS3 := Lib.hid hs3
  clear hs1 hs3
  obtain ⟨y0, y1, y2, y3, y4, y5, y6, y7, y8⟩ := HP3.out.1
  have y10 := HP3.out.2.2
  go_upto_region 5 with (fail)
  generalize hW2 : (w1.alloc (.map #[] 0)).alloc (.cells #[.pointer none, .slice none 0 0, .map (some w1.heap.size)] 58) = W2 at *
  clear hW2 x0 x1 x2 x3 x4 x5 x6 x7 x8 x9 x10
  have HBW := Lib.hid (below_next HB1.out HB3.out)
  have hw1 : w.heap.size ≤ w1.heap.size := HB1.out.size
  obtain ⟨g, hg⟩ : ∃ g, g = w1.heap.size := ⟨_, rfl⟩
  rw [← hg] at HM3 HW3 HS3 hw1 HB3 hlt ⊢
  clear hg HB1 HB2 HP1
  have hnm2 := hnm
  unfold maxLen at hnm2
  go_wp2_with fail
  go_loopw [19] (fun i wr => ∃ k : Nat, k ≤ nn ∧ i = .int .i64 k ∧ Hid (NmMapK g k (nmOf (ns.take k)) wr) ∧ Hid (wr.heap[g + 1]? = some (.cells #[.pointer none, .slice none 0 0, .map (some g)] 58 (0, 0))) ∧ Hid (Below g W2 wr)) (fun i _ => nn - (intOf i).toNat)
  case atStart => exact ⟨0, Nat.zero_le _, rfl, HM3, HW3, Lib.hid (Below.refl _ _)⟩
  case round =>
    obtain ⟨k, hk, rfl, HM, HW, HBR⟩ := hrel
    have hwr : g + 2 ≤ wr.heap.size := by have := HBR.out.size; have := HS3.out; omega
    by_cases hlt' : k < nn
    · obtain ⟨b1, off, hl0, hA, hb1, c0, c1⟩ := ((HL.out.below HBW.out (Nat.le_refl _)).below HBR.out hw1).at hlt'
      have hnum := HL.out.num ns[k] (List.getElem_mem hl0)
      have htx := HL.out.txt ns[k] (List.getElem_mem hl0)
      subst hA
      have hkm : k < maxLen := by omega
      obtain ⟨s, hs⟩ : ∃ s, s = ns[k].1 := ⟨_, rfl⟩
      obtain ⟨num, hnu⟩ : ∃ z, z = ns[k].2 := ⟨_, rfl⟩
      have hb4 : Below wr.heap.size wr ((wr.alloc (.cells #[.string s, .int .i64 num] 49)).drew) := ((Below.refl _ _).alloc (Nat.le_refl _) _).drew
      obtain ⟨w5, r, hM5, hgr⟩ := (HM.out.below hb4 (by omega)).put hl0 hkm hnum htx
      have hnew := heap_alloc_new wr (.cells #[.string s, .int .i64 num] 49)
      have hs4 : (wr.alloc (.cells #[.string s, .int .i64 num] 49)).heap.size = wr.heap.size + 1 := by simp
      rw [← hs] at c0 r
      rw [← hnu] at c1 r
      have hgo : wr.heap[g + 1]? = (wr.alloc (.cells #[.string s, .int .i64 num] 49)).heap[g + 1]? := (hb4.block (g + 1) (by omega)).symm
      have HW4 := Lib.hid (hgo ▸ HW.out)
      clear hs hnu hnum htx hgo
      go_upto_region 8 with (fail)
      generalize hW4 : wr.alloc (.cells #[.string s, .int .i64 num] 49) = W4 at *
      clear hW4
      have z0 : W4.cell? ⟨wr.heap.size, 0, none⟩ = some (.string s) := by rw [Lib.cell_of_heap hnew]; rfl
      have z1 : W4.cell? ⟨wr.heap.size, 1, none⟩ = some (.int .i64 num) := by rw [Lib.cell_of_heap hnew]; rfl
      have z2 : W4.cell? ⟨g + 1, 2, none⟩ = some (.map (some g)) := by rw [Lib.cell_of_heap HW4.out]; rfl
      have HB5 := Lib.hid (Below.grown ((HBR.out.trans (hb4.mono (by omega)))) hgr (by first | (have := HS3.out; omega) | (show g ≤ W4.heap.size; omega)) (fun k hk => by cases hk; exact Nat.le_refl _))
      have HW5 := Lib.hid (show w5.heap[g + 1]? = some (.cells #[.pointer none, .slice none 0 0, .map (some g)] 58 (0, 0)) by
        rw [hgr.block (g + 1) (by show g + 1 < W4.heap.size; omega) (by simp)]; exact HW4.out)
      have HM5 := Lib.hid hM5
      clear hb4 hgr hM5 hnew hs4
      go_region
      all_goals
        go_wp2_with fail
        go_roundw
        case rel => exact ⟨k + 1, by omega, by go_num, HM5, HW5, HB5⟩
        case measure => simp [intOf]; omega
    · obtain rfl : k = nn := by omega
      rw [List.take_of_length_le (by have := HNL.out; omega)] at HM
      have HIW := Lib.hid (show IsWr (g + 1) g [] wr from .inl ⟨.slice none 0 0, HW.out, World.ownsRow_nil _ _ _ _, by simp [Value.ownBlock]⟩)
      have HBT := Lib.hid (HBW.out.trans (HBR.out.mono hw1))
      have HTR := Lib.hid (HT.out.below HBT.out hw2)
      have HSC : Hid (Scn (g + 1) g (nmOf ns) wr) := Lib.hid ⟨HTR.out, HM.out.to, Nat.lt_succ_self _, by omega⟩
      have HNR := Lib.hid (NodeAt.map (fun r => (r.below HBT.out (Nat.le_refl _)).more (show w.heap.size ≤ g + 1 by omega)) _ _ HN.out)
      have C := Lib.hid (C21.out (g + 1) g wr HIW.out HNR.out HSC.out (by rw [List.length_nil]; have := HLEN.out; omega))
      simp only [List.nil_append] at C
      have hk1 := HS3.out
      have HPR := Lib.hid (HP3.out.below HBR.out hlt)
      clear y0 y1 y2 y3 y4 y5 y6 y7 y8 y10 hk1
      obtain ⟨⟨y0, y1, y2, y3, y4, y5, y6, y7, y8⟩, y9, y10⟩ := HPR.out
      go_wp2_with (first
        | (go_at_call 21; refine C.out.mono ?_; rintro e w3 ⟨rfl, h1, h2⟩; have H1 := Lib.hid h1; have HB4 := Lib.hid (HBT.out.trans (h2.below.mono (show w.heap.size ≤ g + 1 by omega))); clear h1 h2)
        | (go_at_call 22; refine (string22 _ _ x _ H1.out HNE.out).mono ?_; rintro e w4 ⟨rfl, hb⟩; have HB5 := Lib.hid (HB4.out.trans (hb.mono (show w.heap.size ≤ g + 1 by omega))); clear hb))
      go_ret2
      exact ⟨rfl, HB5.out⟩
theorem show9 (t : Tr) (d : ND) (gr : Int) (nA : Option Addr) (nn nc : Nat) (ns : List (ByteArray × Int)) (w : World) (ht : Tabs w) (hn : NodeAt w w.heap.size t d) (hl : NamesAt w w.heap.size nA nn ns) (hnc : nn ≤ nc) (hcm : nc ≤ maxLen) (hnm : nn < maxLen) :
    Calls Tryd.prog 9 #[patV d gr nA nn nc] w fun e w' => e = .returned (.tuple #[.string ⟨(showP t gr ns).toArray⟩, .int .i64 (patE t gr ns)]) ∧ Below w.heap.size w w' := by
  by_cases hp : patE t gr ns = 0
  · exact show9_ok t d gr nA nn nc ns w ht hn hl hnc hcm hnm hp
  · exact show9_bad t d gr nA nn nc ns w hn hl hnc hcm hnm hp
end Go.Proofs.YtbekjfoefjnidaaDoor
