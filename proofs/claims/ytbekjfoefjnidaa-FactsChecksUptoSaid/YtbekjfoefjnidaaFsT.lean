/- Of: walked. -/
import Derived.Test.YtbekjfoefjnidaaFsS
import Derived.Test.YtbekjfoefjnidaaFsR
namespace Go.Proofs.Ytbekjfoefjnidaa
open Go.RowKit
set_option linter.unusedVariables false
theorem treeE_ok {t : Tr} {G : Int} (h : treeE t G = 0) : tooG t = false ∧ ∀ x ∈ flatT t, rightE x = 0 := by
  unfold treeE at h
  split at h
  · cases h
  · rename_i h1
    split at h
    · rename_i h2; exact absurd h h2
    · rename_i h2
      refine ⟨by simpa using h1, (seqE_groups (flatT t) 0 (by simpa using h2)).2⟩
theorem okKind_pl {k : Int} (h1 : 1 ≤ k) (h2 : k ≤ 18) : okKind k = plB k := by
  unfold okKind plB
  rw [Bool.eq_iff_iff]
  simp
  omega
theorem rightE_kind {t : Tr} (h : rightE t = 0) : 1 ≤ t.kind ∧ t.kind ≤ 18 := by
  unfold rightE at h
  split at h
  · cases h
  · omega
theorem plain_ok {t : Tr} (h : ∀ x ∈ flatT t, rightE x = 0) : ((flatT t).all fun x => okKind x.kind) = plainT t := by
  rw [plainT_pl, Bool.eq_iff_iff, List.all_eq_true, List.all_eq_true]
  exact ⟨fun g x hx => by have := rightE_kind (h x hx); rw [← okKind_pl this.1 this.2]; exact g x hx, fun g x hx => by have := rightE_kind (h x hx); rw [okKind_pl this.1 this.2]; exact g x hx⟩
def factsV (t : Tr) : Value := if aloneE t = 0 then .agg #[.int .i64 (widT t).1, .int .i64 (widT t).2, .bool (plainT t)] else .agg #[.int .i64 0, .int .i64 0, .bool false]
/-- three values in their block -/
structure TriAt (w : World) (b : Nat) (x y : Int) (z : Bool) : Prop where
  hi : b < w.heap.size
  fz : ∀ j, w.frozen? ⟨b, j, none⟩ = false
  c0 : w.cell? ⟨b, 0, none⟩ = some (.int .i64 x)
  c1 : w.cell? ⟨b, 1, none⟩ = some (.int .i64 y)
  c2 : w.cell? ⟨b, 2, none⟩ = some (.bool z)
theorem TriAt.next {w w' : World} {b : Nat} {x y : Int} {z : Bool} (h : TriAt w b x y z) (hb : Below w.heap.size w w') : TriAt w' b x y z :=
  ⟨Nat.lt_of_lt_of_le h.hi hb.size, fun j => by rw [hb.frozen (p := ⟨b, j, none⟩) h.hi]; exact h.fz j, by rw [hb.cell (p := ⟨b, 0, none⟩) h.hi]; exact h.c0, by rw [hb.cell (p := ⟨b, 1, none⟩) h.hi]; exact h.c1, by rw [hb.cell (p := ⟨b, 2, none⟩) h.hi]; exact h.c2⟩
theorem TriAt.new (w : World) (x y : Int) (z : Bool) : TriAt (w.alloc (.cells #[.int .i64 x, .int .i64 y, .bool z] 28)) w.heap.size x y z := by
  have h := heap_alloc_new w (.cells #[.int .i64 x, .int .i64 y, .bool z] 28)
  refine ⟨by simp, fun j => by unfold World.frozen?; rw [h]; rfl, ?_, ?_, ?_⟩ <;> (rw [cell_of_row _ _ _ _ 28 (0, 0) h]; rfl)
theorem cell_other {w : World} {p : Addr} {b j : Nat} {v : Value} (hne : p.block ≠ b) (h : w.cell? ⟨b, j, none⟩ = some v) (u : Value) : (w.setCell p u).cell? ⟨b, j, none⟩ = some v :=
  (World.cell?_setCell_other _ _ _ _ (fun e => hne (congrArg Addr.block e))).trans h
theorem cell_beside' {w : World} {b i j : Nat} {v : Value} (hne : i ≠ j) (h : w.cell? ⟨b, j, none⟩ = some v) (u : Value) : (w.setCell ⟨b, i, none⟩ u).cell? ⟨b, j, none⟩ = some v :=
  (World.cell?_setCell_other _ _ _ _ (fun e => hne (congrArg Addr.off e))).trans h
theorem TriAt.other {w : World} {b : Nat} {x y : Int} {z : Bool} (h : TriAt w b x y z) {p : Addr} (hne : p.block ≠ b) (u : Value) : TriAt (w.setCell p u) b x y z :=
  ⟨by simpa using h.hi, fun j => by rw [World.frozen?_setCell]; exact h.fz j, cell_other hne h.c0 u, cell_other hne h.c1 u, cell_other hne h.c2 u⟩
theorem TriAt.s0 {w : World} {b : Nat} {x y : Int} {z : Bool} (h : TriAt w b x y z) (v : Int) : TriAt (w.setCell ⟨b, 0, none⟩ (.int .i64 v)) b v y z :=
  ⟨by simpa using h.hi, fun j => by rw [World.frozen?_setCell]; exact h.fz j, World.cell?_setCell_same _ _ _ h.c0, cell_beside' (by decide) h.c1 _, cell_beside' (by decide) h.c2 _⟩
theorem TriAt.s1 {w : World} {b : Nat} {x y : Int} {z : Bool} (h : TriAt w b x y z) (v : Int) : TriAt (w.setCell ⟨b, 1, none⟩ (.int .i64 v)) b x v z :=
  ⟨by simpa using h.hi, fun j => by rw [World.frozen?_setCell]; exact h.fz j, cell_beside' (by decide) h.c0 _, World.cell?_setCell_same _ _ _ h.c1, cell_beside' (by decide) h.c2 _⟩
theorem TriAt.s2 {w : World} {b : Nat} {x y : Int} {z : Bool} (h : TriAt w b x y z) (v : Bool) : TriAt (w.setCell ⟨b, 2, none⟩ (.bool v)) b x y v :=
  ⟨by simpa using h.hi, fun j => by rw [World.frozen?_setCell]; exact h.fz j, cell_beside' (by decide) h.c0 _, cell_beside' (by decide) h.c1 _, World.cell?_setCell_same _ _ _ h.c2⟩
theorem BoxN.other {w : World} {b : Nat} {d : ND} (h : BoxN w b d) {p : Addr} (hne : p.block ≠ b) (u : Value) : BoxN (w.setCell p u) b d := by
  obtain ⟨h0, h1, h2, h3, h4, h5, h6, h7, h8⟩ := h
  exact ⟨by simpa using h0, cell_other hne h1 u, cell_other hne h2 u, cell_other hne h3 u, cell_other hne h4 u, cell_other hne h5 u, cell_other hne h6 u, cell_other hne h7 u, cell_other hne h8 u⟩
def ofW (w : World) (d : ND) : World := (d.box w).alloc (.cells #[.int .i64 0, .int .i64 0, .bool false] 28)
theorem ofW_below (w : World) (d : ND) : Below w.heap.size w (ofW w d) := by unfold ofW ND.box; go_grown
theorem ofW_box (w : World) (d : ND) : BoxN (ofW w d) w.heap.size d := (BoxN.new w d).next ((Below.refl _ _).alloc (Nat.le_refl _) _)
theorem ofW_res (w : World) (d : ND) : TriAt (ofW w d) (w.heap.size + 1) 0 0 false := by
  have h := TriAt.new (d.box w) 0 0 false
  rwa [ND.box_size] at h
set_option maxRecDepth 100000 in
set_option maxHeartbeats 2000000 in
theorem of8 (t : Tr) (d : ND) (w : World) (hn : NodeAt w w.heap.size t d) :
    Calls Try.prog 8 #[d.agg] w fun e w' => e = .returned (.tuple #[factsV t, .int .i64 (aloneE t)]) ∧ Below w.heap.size w w' := by
  have HN := Lib.hid hn
  have HB0 := Lib.hid (ofW_below w d)
  have HX0 := Lib.hid (ofW_box w d)
  have HR0 := Lib.hid (ofW_res w d)
  have C17 := Lib.hid (alone17 t d (ofW w d) (hn.next (ofW_below w d)))
  have hws : (ofW w d).heap.size = w.heap.size + 1 + 1 := by unfold ofW; rw [al_size, ND.box_size]
  have HWS := Lib.hid hws
  clear hws
  by_cases he : aloneE t = 0
  · have HV := Lib.hid (show factsV t = .agg #[.int .i64 (widT t).1, .int .i64 (widT t).2, .bool (plainT t)] by unfold factsV; rw [if_pos he])
    have HOK := Lib.hid (treeE_ok he)
    have EG : ∀ args w, (callFunc 20 args).run Try.prog w = .ok (.enter 20 args) w := enters_of Try.func20 (by kernel_rfl) rfl
    have C18 := Lib.hid (fun (w1 : World) (h : Below w.heap.size w w1) => width18 t d w1 (NodeAt.map (fun r => (r.below h (Nat.le_refl _)).more h.size) _ _ hn) (treeE_ok he).2)
    have C19 := Lib.hid (fun (w1 : World) (h : Below w.heap.size w w1) => walk19 (fun x => okKind x.kind) (fun _ => false) 20 #[] (fun _ _ => True) w1.heap.size none EG (fun _ _ _ _ _ => trivial)
      (fun t' d' w' n hB hn' _ _ _ => (clo20 d' w').mono fun e w'' ⟨h1, h2⟩ => ⟨by obtain ⟨_, hn'⟩ := hn'.of; rw [h1, hn'.kind], h2.mono hB, fun b hb _ => h2.block b hb, trivial⟩) t d w1 0 (Nat.le_refl _) (fun p e => by cases e)
      (NodeAt.map (fun r => (r.below h (Nat.le_refl _)).more h.size) _ _ hn) trivial (by decide) (by have := ((fine_iff t).2 (treeE_ok he).1).1; omega))
    have HPL := Lib.hid (plain_ok (treeE_ok he).2)
    clear hn EG
    rw [he] at C17 ⊢
    rw [HV.out]
    clear he
    obtain ⟨dk, dsA, dsn, dsc, dkA, dkn, dkc, dnum, dleast, dmost, dway, dfold⟩ := d
    unfold ND.agg at *
    unfold patV at C17
    unfold ofW ND.box at *
    simp only at HB0 HX0 HR0 C17 C18 C19 ⊢
    obtain ⟨r, hr⟩ : ∃ r, r = widT t := ⟨_, rfl⟩
    rw [← hr] at C18 ⊢
    clear hr
    obtain ⟨r1, r2⟩ := r
    unfold WalkSaid at C19
    rw [HPL.out] at C19
    obtain ⟨pl, hpl⟩ : ∃ b, b = plainT t := ⟨_, rfl⟩
    rw [← hpl] at C19 ⊢
    clear hpl HV
    simp only at C18 ⊢
    go_enter Try.func8, Try.ntmps8
    go_wp2_with fail
    refine C17.out.mono ?_
    rintro en w1 ⟨G, rfl, hb⟩
    have HB1 := Lib.hid (below_next HB0.out hb)
    have HX1 := Lib.hid (HX0.out.next hb)
    have HR1 := Lib.hid (HR0.out.next hb)
    have hws1 : w.heap.size + 1 + 1 ≤ w1.heap.size := by have := hb.size; rw [HWS.out] at this; exact this
    clear hb C17
    have HBa := Lib.hid (show Below w1.heap.size w1 ((w1.alloc (.cells #[.int .i64 dk, .slice dsA dsn dsc, .slice dkA dkn dkc, .int .i64 dnum, .int .i64 dleast, .int .i64 dmost, .int .i64 dway, .bool dfold, .int .i64 G, .slice none 0 0] 38)).alloc (.cells #[.int .i64 0, .int .i64 0, .bool false] 28)) from ((Below.refl _ _).alloc (Nat.le_refl _) _).alloc (by rw [al_size]; omega) _)
    have HT2 := Lib.hid (TriAt.new (w1.alloc (.cells #[.int .i64 dk, .slice dsA dsn dsc, .slice dkA dkn dkc, .int .i64 dnum, .int .i64 dleast, .int .i64 dmost, .int .i64 dway, .bool dfold, .int .i64 G, .slice none 0 0] 38)) 0 0 false)
    rw [al_size] at HT2
    have HX2 := Lib.hid (HX1.out.next HBa.out)
    have HR2 := Lib.hid (HR1.out.next HBa.out)
    have HB2 := Lib.hid (below_next HB1.out HBa.out)
    obtain ⟨x0, x1, x2, x3, x4, x5, x6, x7, x8⟩ := HX2.out
    go_wp2_with (first
      | (go_at_call 18; refine (C18.out _ HB2.out).mono ?_; rintro e w3 ⟨rfl, hb3⟩; have HT3 := Lib.hid (HT2.out.next hb3); have HT4 := Lib.hid ((HT3.out.s0 r1).s1 r2); have HX4 := Lib.hid (((HX2.out.next hb3).other (p := ⟨w1.heap.size + 1, 0, none⟩) (by simp only; omega) (.int .i64 r1)).other (p := ⟨w1.heap.size + 1, 1, none⟩) (by simp only; omega) (.int .i64 r2)); have HR4 := Lib.hid (((HR2.out.next hb3).other (p := ⟨w1.heap.size + 1, 0, none⟩) (by simp only; omega) (.int .i64 r1)).other (p := ⟨w1.heap.size + 1, 1, none⟩) (by simp only; omega) (.int .i64 r2)); have HB4 := Lib.hid (((below_next HB2.out hb3).setCell (p := ⟨w1.heap.size + 1, 0, none⟩) (by simp only; omega) (.int .i64 r1)).setCell (p := ⟨w1.heap.size + 1, 1, none⟩) (by simp only; omega) (.int .i64 r2)); obtain ⟨t0, tf, t1, t2, t3⟩ := HT3.out; obtain ⟨y0, y1, y2, y3, y4, y5, y6, y7, y8⟩ := HX4.out; clear hb3 x0 x1 x2 x3 x4 x5 x6 x7 x8)
      | (go_at_call 19; refine (C19.out _ HB4.out).mono ?_; rintro e w5 ⟨rfl, hb5, -⟩; have HT5 := Lib.hid (HT4.out.next hb5); have HR5 := Lib.hid (HR4.out.next hb5); have HB5 := Lib.hid (below_next HB4.out hb5); have HT6 := Lib.hid (HT5.out.s2 pl); have HR6 := Lib.hid (HR5.out.other (p := ⟨w1.heap.size + 1, 2, none⟩) (by simp only; omega) (.bool pl)); have HB6 := Lib.hid (HB5.out.setCell (p := ⟨w1.heap.size + 1, 2, none⟩) (by simp only; omega) (.bool pl)); clear hb5 t0 tf t1 t2 t3 y0 y1 y2 y3 y4 y5 y6 y7 y8; obtain ⟨t0, tf, t1, t2, t3⟩ := HT5.out; obtain ⟨u0, uf, u1, u2, u3⟩ := HT6.out; obtain ⟨s0, sf, s1, s2, s3⟩ := HR6.out))
    (try simp only [Exit.inBlock, Exit.then])
    refine bodyPost_ret (v := .tuple #[.agg #[.int .i64 r1, .int .i64 r2, .bool pl], .int .i64 0]) ?_ rfl ⟨rfl, ?_⟩
    · rw [results_cell_tmp rfl]
      go_simp
    · (repeat' (first | (with_reducible exact HB6.out) | (with_reducible refine Below.setCell ?_ (Nat.le_succ _) _)))
  · have HV := Lib.hid (show factsV t = .agg #[.int .i64 0, .int .i64 0, .bool false] by unfold factsV; rw [if_neg he])
    clear hn
    rw [HV.out]
    obtain ⟨ee, hee⟩ : ∃ x, x = aloneE t := ⟨_, rfl⟩
    rw [← hee] at C17 he ⊢
    clear hee HV
    have heb : (ee != 0) = true := by simp [he]
    obtain ⟨dk, dsA, dsn, dsc, dkA, dkn, dkc, dnum, dleast, dmost, dway, dfold⟩ := d
    unfold ND.agg at *
    unfold patV at C17
    unfold ofW ND.box at *
    simp only at HB0 HX0 HR0 C17 ⊢
    clear he
    go_enter Try.func8, Try.ntmps8
    go_wp2_with fail
    refine C17.out.mono ?_
    rintro en w1 ⟨G, rfl, hb⟩
    have HB1 := Lib.hid (below_next HB0.out hb)
    have HR1 := Lib.hid (HR0.out.next hb)
    have hws1 : w.heap.size + 1 + 1 ≤ w1.heap.size := by have := hb.size; rw [HWS.out] at this; exact this
    clear hb C17
    have HBa := Lib.hid (show Below w1.heap.size w1 (w1.alloc (.cells #[.int .i64 dk, .slice dsA dsn dsc, .slice dkA dkn dkc, .int .i64 dnum, .int .i64 dleast, .int .i64 dmost, .int .i64 dway, .bool dfold, .int .i64 G, .slice none 0 0] 38)) from (Below.refl _ _).alloc (Nat.le_refl _) _)
    have HR2 := Lib.hid (HR1.out.next HBa.out)
    have HB2 := Lib.hid (below_next HB1.out HBa.out)
    obtain ⟨t0, tf, t1, t2, t3⟩ := HR2.out
    go_wp2_with fail
    (try simp only [Exit.inBlock, Exit.then])
    refine bodyPost_ret (v := .tuple #[.agg #[.int .i64 0, .int .i64 0, .bool false], .int .i64 ee]) ?_ rfl ⟨rfl, ?_⟩
    · rw [results_cell_tmp rfl]
      go_simp
    · (repeat' (first | (with_reducible exact HB2.out) | (with_reducible refine Below.setCell ?_ (Nat.le_succ _) _)))
end Go.Proofs.Ytbekjfoefjnidaa
