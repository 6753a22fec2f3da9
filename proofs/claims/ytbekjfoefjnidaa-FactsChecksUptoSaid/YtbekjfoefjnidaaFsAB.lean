/- AloneOf, factsBegun: walked. -/
import Derived.Test.YtbekjfoefjnidaaFsAA
import Derived.Test.YtbekjfoefjnidaaFsT
import Derived.Test.YtbekjfoefjnidaaFsW
import Derived.Laws.StructEq
namespace Go.Proofs.Ytbekjfoefjnidaa
open Go.RowKit
set_option linter.unusedVariables false
set_option maxRecDepth 100000 in
set_option maxHeartbeats 2000000 in
theorem alone9 (t : Tr) (d : ND) (w : World) (hn : NodeAt w w.heap.size t d) (hsm : Small t) :
    Calls Try.prog 9 #[d.agg] w fun e w' => e = .returned (.int .i64 (aloneE t)) ∧ Below w.heap.size w w' := by
  have HN := Lib.hid hn
  have HB0 := Lib.hid (ND.box_below w d)
  have HX0 := Lib.hid (BoxN.new w d)
  have C21 := Lib.hid (tooGreat21 t d (d.box w) (hn.next (ND.box_below w d)) hsm)
  have HF := Lib.hid (fine_iff t)
  have HSM := Lib.hid hsm
  cases hg : tooG t
  case true =>
    have HA := Lib.hid (show aloneE t = 2 from treeE_many hg)
    rw [hg] at C21
    clear hn hsm hg
    obtain ⟨dk, dsA, dsn, dsc, dkA, dkn, dkc, dnum, dleast, dmost, dway, dfold⟩ := d
    unfold ND.agg at *
    unfold ND.box at *
    simp only at HB0 HX0 C21 ⊢
    obtain ⟨x0, x1, x2, x3, x4, x5, x6, x7, x8⟩ := HX0.out
    go_enter Try.func9, Try.ntmps9
    go_wp2_with (go_at_call 21; refine C21.out.mono ?_; rintro e w1 ⟨rfl, hb⟩; have HB1 := Lib.hid (below_next HB0.out hb); clear hb)
    go_ret
    rw [HA.out]
    exact ⟨rfl, HB1.out⟩
  case false =>
    have hs2 : sizeT t ≤ 1000 := by have := (HF.out.2 hg).1; omega
    have HA := Lib.hid (show aloneE t = treeE t (grpL (flatT t) : Int) from rfl)
    have C23 := Lib.hid (fun (w1 : World) (h : Below w.heap.size w w1) => groupsOf23 t d w1 (NodeAt.map (fun r => (r.below h (Nat.le_refl _)).more h.size) _ _ hn) hs2)
    have C22 := Lib.hid (fun (w1 : World) (h : Below w.heap.size w w1) => check22_none t d (grpL (flatT t) : Int) none 0 w1 (NodeAt.map (fun r => (r.below h (Nat.le_refl _)).more h.size) _ _ hn) hsm)
    rw [hg] at C21
    clear hn hsm hg
    obtain ⟨G, hG⟩ : ∃ G : Int, G = (grpL (flatT t) : Int) := ⟨_, rfl⟩
    rw [← hG] at HA C22 C23
    clear hG
    obtain ⟨dk, dsA, dsn, dsc, dkA, dkn, dkc, dnum, dleast, dmost, dway, dfold⟩ := d
    unfold patV at C22
    unfold ND.agg at *
    unfold ND.box at *
    simp only at HB0 HX0 C21 C22 C23 ⊢
    obtain ⟨x0, x1, x2, x3, x4, x5, x6, x7, x8⟩ := HX0.out
    go_enter Try.func9, Try.ntmps9
    go_upto_region 3 with (go_at_call 21; refine C21.out.mono ?_; rintro e w1 ⟨rfl, hb⟩; have HB1 := Lib.hid (below_next HB0.out hb); have HX1 := Lib.hid (HX0.out.next hb); clear hb)
    clear x0 x1 x2 x3 x4 x5 x6 x7 x8
    obtain ⟨x0, x1, x2, x3, x4, x5, x6, x7, x8⟩ := HX1.out
    go_region_held3 (fun w' => w'.cell? ⟨w.heap.size, 0, none⟩ = some (.int .i64 dk) ∧ w'.cell? ⟨w.heap.size, 1, none⟩ = some (.slice dsA dsn dsc) ∧ w'.cell? ⟨w.heap.size, 2, none⟩ = some (.slice dkA dkn dkc) ∧ w'.cell? ⟨w.heap.size, 3, none⟩ = some (.int .i64 dnum) ∧ w'.cell? ⟨w.heap.size, 4, none⟩ = some (.int .i64 dleast) ∧ w'.cell? ⟨w.heap.size, 5, none⟩ = some (.int .i64 dmost) ∧ w'.cell? ⟨w.heap.size, 6, none⟩ = some (.int .i64 dway) ∧ w'.cell? ⟨w.heap.size, 7, none⟩ = some (.bool dfold))
      (first | exact ⟨x1, x2, x3, x4, x5, x6, x7, x8⟩ | exact ⟨y1, y2, y3, y4, y5, y6, y7, y8⟩ | exact ⟨z1, z2, z3, z4, z5, z6, z7, z8⟩ | (trace_state; fail))
      (first
      | (go_at_call 23; refine (C23.out _ HB1.out.drew).mono ?_; rintro en w2 ⟨rfl, hb⟩; have HB2 := Lib.hid (below_next HB1.out.drew hb); have HX2 := Lib.hid (HX1.out.next ((Below.refl _ _).drew.trans hb)); obtain ⟨y0, y1, y2, y3, y4, y5, y6, y7, y8⟩ := HX2.out; clear hb)
      | (go_at_call 22; refine (C22.out _ HB2.out).mono ?_; rintro en w3 ⟨rfl, hb⟩; have HB3 := Lib.hid (below_next HB2.out hb); have HX3 := Lib.hid (HX2.out.next hb); obtain ⟨z0, z1, z2, z3, z4, z5, z6, z7, z8⟩ := HX3.out; clear hb))
    all_goals
      (try go_wp2_with fail)
      go_ret
      rw [HA.out]
      exact ⟨rfl, HB3.out⟩
def beginT : Tr := .mk 2 [(1, 2)] [] 0 0 0 0 false
theorem begin_facts : aloneE beginT = 0 ∧ widT beginT = (1, 1) ∧ plainT beginT = true := by decide
theorem begin_node (w : World) : NodeAt (w.alloc (.cells #[.int .i64 1, .int .i64 2] 46)) (w.alloc (.cells #[.int .i64 1, .int .i64 2] 46)).heap.size beginT ⟨2, some ⟨w.heap.size, 0, none⟩, 1, 1, none, 0, 0, 0, 0, 0, 0, false⟩ :=
  .mk (d := ⟨2, some ⟨w.heap.size, 0, none⟩, 1, 1, none, 0, 0, 0, 0, 0, 0, false⟩) (s := [(1, 2)]) (ks := []) (ds := []) ((Rds.new w 2 1 #[.int .i64 1, .int .i64 2] 46 (rngs [(1, 2)]) rfl rfl).more (show w.heap.size + 1 ≤ (w.alloc (.cells #[.int .i64 1, .int .i64 2] 46)).heap.size by rw [al_size]; exact Nat.le_refl _)) (Nat.le_refl _) (show 1 ≤ maxLen by decide) (Rds.nil_ _ _ _ _) (Nat.le_refl _) (show 0 ≤ maxLen by decide) .nil
theorem begin_val : factsV beginT = .agg #[.int .i64 1, .int .i64 1, .bool true] := by
  unfold factsV; rw [if_pos begin_facts.1, begin_facts.2.1, begin_facts.2.2]
set_option maxRecDepth 100000 in
set_option maxHeartbeats 2000000 in
theorem begun7 (w : World) : Calls Try.prog 7 #[] w fun e w' => e = .returned (.bool true) ∧ Below w.heap.size w w' := by
  have HB0 := Lib.hid (show Below w.heap.size w (w.alloc (.cells #[.int .i64 1, .int .i64 2] 46)) from (Below.refl _ _).alloc (Nat.le_refl _) _)
  have C8 := Lib.hid (of8 beginT _ _ (begin_node w))
  rw [begin_facts.1, begin_val] at C8
  unfold ND.agg at C8
  simp only at C8
  go_enter Try.func7, Try.ntmps7
  go_wp2_with (go_at_call 8; refine C8.out.mono ?_; rintro e w1 ⟨rfl, hb⟩; have HB1 := Lib.hid (below_next HB0.out hb); have HT1 := Lib.hid (TriAt.new w1 1 1 true); obtain ⟨t0, tf, t1, t2, t3⟩ := HT1.out; clear hb)
  go_ret
  exact ⟨rfl, HB1.out.alloc HB1.out.size _⟩
theorem TriAt.cells {w : World} {b : Nat} {x y : Int} {z : Bool} (h : TriAt w b x y z) : w.cell? ⟨b, 0, none⟩ = some (.int .i64 x) ∧ w.cell? ⟨b, 1, none⟩ = some (.int .i64 y) ∧ w.cell? ⟨b, 2, none⟩ = some (.bool z) := ⟨h.c0, h.c1, h.c2⟩
set_option maxRecDepth 100000 in
set_option maxHeartbeats 2000000 in
theorem lawFactsOf (t : Tr) (d : ND) (w : World) (hn : NodeAt w w.heap.size t d) (hsm : Small t) : Calls Try.prog 4 #[d.agg] w fun e w' => e = .returned (.bool true) ∧ Below w.heap.size w w' := by
  have HN := Lib.hid hn
  have HB0 := Lib.hid (ND.box_below w d)
  have HX0 := Lib.hid (BoxN.new w d)
  have C8 := Lib.hid (of8 t d (d.box w) (hn.next (ND.box_below w d)))
  have HN1 := Lib.hid (fun (w1 : World) (h : Below w.heap.size w w1) => (NodeAt.map (fun r => (r.below h (Nat.le_refl _)).more h.size) _ _ hn : NodeAt w1 w1.heap.size t d))
  have C9 := Lib.hid (fun (w1 : World) (h : Below w.heap.size w w1) => alone9 t d w1 (HN1.out w1 h) hsm)
  by_cases he : aloneE t = 0
  · have HV := Lib.hid (show factsV t = .agg #[.int .i64 (widT t).1, .int .i64 (widT t).2, .bool (plainT t)] by unfold factsV; rw [if_pos he])
    have hok := treeE_ok he
    have C10 := Lib.hid (fun (w1 : World) (h : Below w.heap.size w w1) => wideR t d w1 (HN1.out w1 h) hok.2)
    have C11 := Lib.hid (fun (w1 : World) (h : Below w.heap.size w w1) => isPlain11 t d w1 (HN1.out w1 h) (by have := ((fine_iff t).2 hok.1).1; omega))
    rw [HV.out, he] at C8
    rw [he] at C9
    unfold wT at C10
    clear hn hsm he HV hok
    obtain ⟨r, hr⟩ : ∃ r, r = widT t := ⟨_, rfl⟩
    rw [← hr] at C8 C10
    clear hr
    obtain ⟨r1, r2⟩ := r
    obtain ⟨pl, hpl⟩ : ∃ b, b = plainT t := ⟨_, rfl⟩
    rw [← hpl] at C8 C11
    clear hpl
    obtain ⟨dk, dsA, dsn, dsc, dkA, dkn, dkc, dnum, dleast, dmost, dway, dfold⟩ := d
    unfold ND.agg at *
    unfold ND.box at *
    simp only at HB0 HX0 C8 C9 C10 C11 ⊢
    obtain ⟨x0, x1, x2, x3, x4, x5, x6, x7, x8⟩ := HX0.out
    go_enter Try.func4, Try.ntmps4
    go_upto_region 2 with (go_at_call 8; refine C8.out.mono ?_; rintro e w1 ⟨rfl, hb⟩; have HB1 := Lib.hid (below_next HB0.out hb); have HX1 := Lib.hid (HX0.out.next hb); clear hb)
    clear x0 x1 x2 x3 x4 x5 x6 x7 x8
    have HA1 := Lib.hid (show Below w1.heap.size w1 (w1.alloc (.cells #[.int .i64 r1, .int .i64 r2, .bool pl] 28)) from (Below.refl _ _).alloc (Nat.le_refl _) _)
    have HT1 := Lib.hid (TriAt.new w1 r1 r2 pl)
    have HX2 := Lib.hid (HX1.out.next HA1.out)
    have HB2 := Lib.hid (below_next HB1.out HA1.out)
    obtain ⟨x0, x1, x2, x3, x4, x5, x6, x7, x8⟩ := HX2.out
    have hs1 : w.heap.size < w1.heap.size := HX1.out.1
    go_upto_region 3 with (go_at_call 9; refine (C9.out _ HB2.out).mono ?_; rintro e w2 ⟨rfl, hb⟩; have HB3 := Lib.hid (below_next HB2.out hb); have HX3 := Lib.hid (HX2.out.next hb); have HT2 := Lib.hid (HT1.out.next hb); clear hb)
    clear x0 x1 x2 x3 x4 x5 x6 x7 x8
    have hs2 : w1.heap.size < w2.heap.size := HT2.out.hi
    have HA2 := Lib.hid (show Below w2.heap.size w2 (w2.alloc (.cells #[.int .i64 0, .int .i64 0, .bool false] 28)) from (Below.refl _ _).alloc (Nat.le_refl _) _)
    have HU1 := Lib.hid (TriAt.new w2 0 0 false)
    have HX4 := Lib.hid (HX3.out.next HA2.out)
    have HT3 := Lib.hid (HT2.out.next HA2.out)
    have HB4 := Lib.hid (below_next HB3.out HA2.out)
    obtain ⟨x0, x1, x2, x3, x4, x5, x6, x7, x8⟩ := HX4.out
    obtain ⟨t0, tf, t1, t2, t3⟩ := HT3.out
    go_upto_region 6 with (go_at_call 10; refine (C10.out _ HB4.out).mono ?_; rintro e w3 ⟨rfl, hb⟩; have HB5 := Lib.hid (below_next HB4.out hb); have HX5 := Lib.hid (HX4.out.next hb); have HT5 := Lib.hid (HT3.out.next hb); have HU5 := Lib.hid (HU1.out.next hb); obtain ⟨u0, uf, u1, u2, u3⟩ := HU5.out; clear hb)
    have HU6 := Lib.hid ((HU5.out.s0 r1).s1 r2)
    have HX6 := Lib.hid ((HX5.out.other (p := ⟨w2.heap.size, 0, none⟩) (by simp only; omega) (.int .i64 r1)).other (p := ⟨w2.heap.size, 1, none⟩) (by simp only; omega) (.int .i64 r2))
    have HT6 := Lib.hid ((HT5.out.other (p := ⟨w2.heap.size, 0, none⟩) (by simp only; omega) (.int .i64 r1)).other (p := ⟨w2.heap.size, 1, none⟩) (by simp only; omega) (.int .i64 r2))
    have HB6 := Lib.hid ((HB5.out.setCell (p := ⟨w2.heap.size, 0, none⟩) (show w.heap.size ≤ w2.heap.size by omega) (.int .i64 r1)).setCell (p := ⟨w2.heap.size, 1, none⟩) (show w.heap.size ≤ w2.heap.size by omega) (.int .i64 r2))
    clear x0 x1 x2 x3 x4 x5 x6 x7 x8 t0 tf t1 t2 t3
    obtain ⟨x0, x1, x2, x3, x4, x5, x6, x7, x8⟩ := HX6.out
    go_upto_region 7 with (go_at_call 11; refine (C11.out _ HB6.out).mono ?_; rintro e w4 ⟨rfl, hb⟩; have HB7 := Lib.hid (below_next HB6.out hb); have HX7 := Lib.hid (HX6.out.next hb); have HT7 := Lib.hid (HT6.out.next hb); have HU7 := Lib.hid (HU6.out.next hb); clear u0 uf u1 u2 u3; obtain ⟨u0, uf, u1, u2, u3⟩ := HU7.out; clear hb)
    have HU8 := Lib.hid (HU7.out.s2 pl)
    have HT8 := Lib.hid (HT7.out.other (p := ⟨w2.heap.size, 2, none⟩) (by simp only; omega) (.bool pl))
    have HB8 := Lib.hid (HB7.out.setCell (p := ⟨w2.heap.size, 2, none⟩) (show w.heap.size ≤ w2.heap.size by omega) (.bool pl))
    clear x0 x1 x2 x3 x4 x5 x6 x7 x8 u0 uf u1 u2 u3
    go_wp2_with (go_at_call 7; refine (begun7 _).mono ?_; rintro e w5 ⟨rfl, hb⟩; have HB9 := Lib.hid (below_next HB8.out hb); obtain ⟨t0, tf, t1, t2, t3⟩ := HT8.out.next hb; obtain ⟨u0, uf, u1, u2, u3⟩ := HU8.out.next hb; clear hb)
    all_goals
      go_ret
      exact ⟨rfl, HB9.out⟩
  · have HV := Lib.hid (show factsV t = .agg #[.int .i64 0, .int .i64 0, .bool false] by unfold factsV; rw [if_neg he])
    rw [HV.out] at C8
    obtain ⟨ee, hee⟩ : ∃ x, x = aloneE t := ⟨_, rfl⟩
    rw [← hee] at C8 C9 he
    clear hn hsm HV hee
    have heb : (ee == 0) = false := beq_eq_false_iff_ne.2 he
    obtain ⟨dk, dsA, dsn, dsc, dkA, dkn, dkc, dnum, dleast, dmost, dway, dfold⟩ := d
    unfold ND.agg at *
    unfold ND.box at *
    simp only at HB0 HX0 C8 C9 ⊢
    obtain ⟨x0, x1, x2, x3, x4, x5, x6, x7, x8⟩ := HX0.out
    go_enter Try.func4, Try.ntmps4
    go_upto_region 2 with (go_at_call 8; refine C8.out.mono ?_; rintro e w1 ⟨rfl, hb⟩; have HB1 := Lib.hid (below_next HB0.out hb); have HX1 := Lib.hid (HX0.out.next hb); clear hb)
    clear x0 x1 x2 x3 x4 x5 x6 x7 x8
    have HA1 := Lib.hid (show Below w1.heap.size w1 (w1.alloc (.cells #[.int .i64 0, .int .i64 0, .bool false] 28)) from (Below.refl _ _).alloc (Nat.le_refl _) _)
    have HT1 := Lib.hid (TriAt.new w1 0 0 false)
    have HX2 := Lib.hid (HX1.out.next HA1.out)
    have HB2 := Lib.hid (below_next HB1.out HA1.out)
    obtain ⟨x0, x1, x2, x3, x4, x5, x6, x7, x8⟩ := HX2.out
    have hs1 : w.heap.size < w1.heap.size := HX1.out.1
    go_upto_region 3 with (go_at_call 9; refine (C9.out _ HB2.out).mono ?_; rintro e w2 ⟨rfl, hb⟩; have HB3 := Lib.hid (below_next HB2.out hb); have HT2 := Lib.hid (HT1.out.next hb); clear hb)
    clear x0 x1 x2 x3 x4 x5 x6 x7 x8
    have hs2 : w1.heap.size < w2.heap.size := HT2.out.hi
    have HA2 := Lib.hid (show Below w2.heap.size w2 (w2.alloc (.cells #[.int .i64 0, .int .i64 0, .bool false] 28)) from (Below.refl _ _).alloc (Nat.le_refl _) _)
    have HU1 := Lib.hid (TriAt.new w2 0 0 false)
    have HT3 := Lib.hid (HT2.out.next HA2.out)
    have HB4 := Lib.hid (below_next HB3.out HA2.out)
    go_wp2_with (go_at_call 7; refine (begun7 _).mono ?_; rintro e w5 ⟨rfl, hb⟩; have HB9 := Lib.hid (below_next HB4.out hb); obtain ⟨t0, tf, t1, t2, t3⟩ := HT3.out.next hb; obtain ⟨u0, uf, u1, u2, u3⟩ := HU1.out.next hb; clear hb)
    all_goals
      go_ret
      exact ⟨rfl, HB9.out⟩
end Go.Proofs.Ytbekjfoefjnidaa
