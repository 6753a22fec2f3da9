/- FactsWrap: walked. -/
import Derived.Test.YtbekjfoefjnidaaFsAB
namespace Go.Proofs.Ytbekjfoefjnidaa
open Go.RowKit
set_option linter.unusedVariables false
/-- a tree with one kid -/
def wrapT (k : Int) (l m y : Int) (t : Tr) : Tr := .mk k [] [t] 0 l m y false
def IsWrap (k l m y : Int) : Prop := (k = 13 ∧ l = 0 ∧ m = 0 ∧ y = 0) ∨ (k = 12 ∧ l = 2 ∧ m = 2 ∧ y = 2)
theorem wrap_right {k l m y : Int} (h : IsWrap k l m y) (t : Tr) : rightE (wrapT k l m y t) = 0 := by
  rcases h with ⟨rfl, rfl, rfl, rfl⟩ | ⟨rfl, rfl, rfl, rfl⟩ <;> rfl
theorem flat_wrap (k l m y : Int) (t : Tr) : flatT (wrapT k l m y t) = wrapT k l m y t :: flatT t := by
  unfold wrapT; rw [flatT, flatL, flatL, List.append_nil]
theorem wrap_step {k l m y : Int} (h : IsWrap k l m y) (t : Tr) (g : Int) : stepE (wrapT k l m y t) g = (0, g) := by
  have hk : ¬ (wrapT k l m y t).kind = 11 := by show ¬ k = 11; rcases h with h | h <;> omega
  unfold stepE
  rw [wrap_right h, if_neg (by simp), if_neg hk]
theorem wrap_seq {k l m y : Int} (h : IsWrap k l m y) (t : Tr) (g : Int) : seqE (flatT (wrapT k l m y t)) g = seqE (flatT t) g := by
  rw [flat_wrap, seqE, wrap_step h, if_neg (by simp)]
theorem wrap_groups {k l m y : Int} (h : IsWrap k l m y) (t : Tr) : grpL (flatT (wrapT k l m y t)) = grpL (flatT t) := by
  rw [flat_wrap]
  unfold grpL
  rw [List.filter_cons_of_neg]
  show ¬ (k == 11) = true
  rcases h with h | h <;> (simp; omega)
theorem wrap_agains {k l m y : Int} (h : IsWrap k l m y) (t : Tr) (g : Int) : againsBad (flatT (wrapT k l m y t)) g = againsBad (flatT t) g := by
  rw [flat_wrap]
  unfold againsBad
  rw [List.any_cons]
  have : ((wrapT k l m y t).kind == 18) = false := by show (k == 18) = false; rcases h with h | h <;> (simp; omega)
  rw [this, Bool.false_and, Bool.false_or]
theorem wrap_alone {k l m y : Int} (h : IsWrap k l m y) (t : Tr) (h0 : aloneE t = 0) : aloneE (wrapT k l m y t) = if tooG (wrapT k l m y t) = true then 2 else 0 := by
  have e1 : treeE t (grpL (flatT t) : Int) = 0 := h0
  have e2 : tooG t = false := (treeE_ok h0).1
  unfold treeE at e1
  rw [if_neg (by rw [e2]; simp)] at e1
  unfold aloneE treeE
  rw [wrap_seq h, wrap_groups h, wrap_agains h]
  split
  · rfl
  · exact e1
theorem wrap_tooG (k l m y k' l' m' y' : Int) (t : Tr) : tooG (wrapT k l m y t) = tooG (wrapT k' l' m' y' t) := rfl
theorem wrap_plain {k l m y : Int} (h : IsWrap k l m y) (t : Tr) : plainT (wrapT k l m y t) = plainT t := by
  rw [plainT_pl, plainT_pl, flat_wrap, List.all_cons]
  have : plB (wrapT k l m y t).kind = true := by show plB k = true; rcases h with h | h <;> (obtain ⟨rfl, _⟩ := h; rfl)
  rw [this, Bool.true_and]
theorem wid_atomic (t : Tr) : widT (wrapT 13 0 0 0 t) = widT t := by
  unfold wrapT; rw [widT, widL, widL]; rfl
theorem wid_twice (t : Tr) : widT (wrapT 12 2 2 2 t) = timesW (widT t) 2 2 := by
  unfold wrapT; rw [widT, widL, widL]; rfl
theorem factsV_agg (t : Tr) : ∃ x y z, factsV t = .agg #[.int .i64 x, .int .i64 y, .bool z] ∧ (aloneE t = 0 → x = (widT t).1 ∧ y = (widT t).2 ∧ z = plainT t) := by
  unfold factsV
  split
  · exact ⟨_, _, _, rfl, fun _ => ⟨rfl, rfl, rfl⟩⟩
  · rename_i h; exact ⟨_, _, _, rfl, fun h1 => absurd h1 h⟩
/-- a node around another one, in memory -/
def wrapW (w : World) (d : ND) : World := w.alloc (.cells #[.int .i64 d.kind, .slice d.sA d.sn d.sc, .slice d.kA d.kn d.kc, .int .i64 d.num, .int .i64 d.least, .int .i64 d.most, .int .i64 d.way, .bool d.fold] 25)
def wrapD (w : World) (k l m y : Int) : ND := ⟨k, none, 0, 0, some ⟨w.heap.size, 0, none⟩, 1, 1, 0, l, m, y, false⟩
theorem wrapW_below (w : World) (d : ND) : Below w.heap.size w (wrapW w d) := (Below.refl _ _).alloc (Nat.le_refl _) _
theorem wrap_node {w : World} {t : Tr} {d : ND} (hn : NodeAt w w.heap.size t d) (k l m y : Int) : NodeAt (wrapW w d) (wrapW w d).heap.size (wrapT k l m y t) (wrapD w k l m y) :=
  .mk (d := wrapD w k l m y) (s := []) (ks := [t]) (ds := [d]) (Rds.nil_ _ _ _ _) (Nat.le_refl _) (show 0 ≤ maxLen by decide)
    ((Rds.new w 8 1 #[.int .i64 d.kind, .slice d.sA d.sn d.sc, .slice d.kA d.kn d.kc, .int .i64 d.num, .int .i64 d.least, .int .i64 d.most, .int .i64 d.way, .bool d.fold] 25 (nds [d]) rfl rfl).more (show w.heap.size + 1 ≤ (wrapW w d).heap.size by unfold wrapW; rw [al_size]; exact Nat.le_refl _))
    (Nat.le_refl _) (show 1 ≤ maxLen by decide) (.cons (hn.next (wrapW_below w d)) .nil)
theorem twice_most (r : Int) : (if 1000000 < (if r < 0 ∧ (2 : Int) ≠ 0 ∨ (2 : Int) < 0 ∧ r ≠ 0 then -1 else r * 2) then -1 else (if r < 0 ∧ (2 : Int) ≠ 0 ∨ (2 : Int) < 0 ∧ r ≠ 0 then -1 else r * 2)) = if r < 0 ∨ 1000000 < 2 * r then -1 else 2 * r := by
  by_cases hr : r < 0
  · rw [if_pos (show r < 0 ∧ (2 : Int) ≠ 0 ∨ (2 : Int) < 0 ∧ r ≠ 0 from .inl ⟨hr, by decide⟩), if_pos (show r < 0 ∨ 1000000 < 2 * r from .inl hr), if_neg (show ¬ (1000000 : Int) < -1 by decide)]
  · rw [if_neg (show ¬ (r < 0 ∧ (2 : Int) ≠ 0 ∨ (2 : Int) < 0 ∧ r ≠ 0) by omega)]
    by_cases hm : 1000000 < 2 * r
    · rw [if_pos (show 1000000 < r * 2 by omega), if_pos (show r < 0 ∨ 1000000 < 2 * r from .inr hm)]
    · rw [if_neg (show ¬ 1000000 < r * 2 by omega), if_neg (show ¬ (r < 0 ∨ 1000000 < 2 * r) by omega)]; omega
theorem wrap_said (t : Tr) {e1 e2 e3 : Int} {x1 y1 x2 y2 x3 y3 : Int} {z1 z2 z3 : Bool} (h1 : e1 = aloneE t) (h2 : e2 = aloneE (wrapT 13 0 0 0 t)) (h3 : e3 = aloneE (wrapT 12 2 2 2 t))
    (f1 : aloneE t = 0 → x1 = (widT t).1 ∧ y1 = (widT t).2 ∧ z1 = plainT t) (f2 : aloneE (wrapT 13 0 0 0 t) = 0 → x2 = (widT (wrapT 13 0 0 0 t)).1 ∧ y2 = (widT (wrapT 13 0 0 0 t)).2 ∧ z2 = plainT (wrapT 13 0 0 0 t))
    (f3 : aloneE (wrapT 12 2 2 2 t) = 0 → x3 = (widT (wrapT 12 2 2 2 t)).1 ∧ y3 = (widT (wrapT 12 2 2 2 t)).2 ∧ z3 = plainT (wrapT 12 2 2 2 t)) :
    e1 ≠ 0 ∨ (e1 = 0 ∧ e2 = 2 ∧ e3 = 2) ∨ (e1 = 0 ∧ e2 = 0 ∧ e3 = 0 ∧ (x2 = x1 ∧ y2 = y1 ∧ z2 = z1 ∧ z3 = z1) ∧ (0 ≤ x1 ∧ x1 ≤ 1000000 ∧ -1 ≤ y1 ∧ y1 ≤ 1000000) ∧ x3 = min 1000000 (2 * x1) ∧ y3 = if y1 < 0 ∨ 1000000 < 2 * y1 then -1 else 2 * y1) := by
  by_cases he : aloneE t = 0
  · right
    have g2 := wrap_alone (.inl ⟨rfl, rfl, rfl, rfl⟩) t he (k := 13) (l := 0) (m := 0) (y := 0)
    have g3 := wrap_alone (.inr ⟨rfl, rfl, rfl, rfl⟩) t he (k := 12) (l := 2) (m := 2) (y := 2)
    rw [wrap_tooG 12 2 2 2 13 0 0 0 t] at g3
    by_cases hg : tooG (wrapT 13 0 0 0 t) = true
    · rw [if_pos hg] at g2 g3
      exact .inl ⟨by rw [h1, he], by rw [h2, g2], by rw [h3, g3]⟩
    · rw [if_neg hg] at g2 g3
      obtain ⟨a1, a2, a3⟩ := f1 he
      obtain ⟨b1, b2, b3⟩ := f2 g2
      obtain ⟨c1, c2, c3⟩ := f3 g3
      rw [wid_atomic] at b1 b2
      rw [wid_twice] at c1 c2
      rw [wrap_plain (.inl ⟨rfl, rfl, rfl, rfl⟩)] at b3
      rw [wrap_plain (.inr ⟨rfl, rfl, rfl, rfl⟩)] at c3
      have hok := widT_ok t (treeE_ok he).2
      obtain ⟨r1, r2⟩ := widT t
      unfold okW at hok
      (try simp only at a1 a2 b1 b2 hok)
      unfold timesW capW at c1 c2
      (try simp only at c1 c2)
      refine .inr ⟨by rw [h1, he], by rw [h2, g2], by rw [h3, g3], ⟨by rw [b1, a1], by rw [b2, a2], by rw [b3, a3], by rw [c3, a3]⟩, by omega, by omega, ?_⟩
      rw [c2, a2]
      exact twice_most _
  · exact .inl (by rw [h1]; exact he)
set_option maxRecDepth 100000 in
set_option maxHeartbeats 8000000 in
theorem lawFactsWrap (t : Tr) (d : ND) (w : World) (hn : NodeAt w w.heap.size t d) (hsm : Small t) : Calls Try.prog 3 #[d.agg] w fun e w' => e = .returned (.bool true) ∧ Below w.heap.size w w' := by
  have HB0 := Lib.hid (ND.box_below w d)
  have HX0 := Lib.hid (BoxN.new w d)
  have HN1 := Lib.hid (fun (w1 : World) (h : Below w.heap.size w w1) => (NodeAt.map (fun r => (r.below h (Nat.le_refl _)).more h.size) _ _ hn : NodeAt w1 w1.heap.size t d))
  have C8 := Lib.hid (fun (w1 : World) (h : Below w.heap.size w w1) => of8 t d w1 (HN1.out w1 h))
  have C13 := Lib.hid (fun (w1 : World) (h : Below w.heap.size w w1) => of8 (wrapT 13 0 0 0 t) (wrapD w1 13 0 0 0) (wrapW w1 d) (wrap_node (HN1.out w1 h) 13 0 0 0))
  have C12 := Lib.hid (fun (w1 : World) (h : Below w.heap.size w w1) => of8 (wrapT 12 2 2 2 t) (wrapD w1 12 2 2 2) (wrapW w1 d) (wrap_node (HN1.out w1 h) 12 2 2 2))
  have HWW := Lib.hid (fun w1 => wrapW_below w1 d)
  obtain ⟨x1, y1, z1, v1, f1⟩ := factsV_agg t
  obtain ⟨x2, y2, z2, v2, f2⟩ := factsV_agg (wrapT 13 0 0 0 t)
  obtain ⟨x3, y3, z3, v3, f3⟩ := factsV_agg (wrapT 12 2 2 2 t)
  rw [v1] at C8
  rw [v2] at C13
  rw [v3] at C12
  obtain ⟨e1, he1⟩ : ∃ x, x = aloneE t := ⟨_, rfl⟩
  obtain ⟨e2, he2⟩ : ∃ x, x = aloneE (wrapT 13 0 0 0 t) := ⟨_, rfl⟩
  obtain ⟨e3, he3⟩ : ∃ x, x = aloneE (wrapT 12 2 2 2 t) := ⟨_, rfl⟩
  have HS := Lib.hid (wrap_said t he1 he2 he3 f1 f2 f3)
  rw [← he1] at C8
  rw [← he2] at C13
  rw [← he3] at C12
  clear he1 he2 he3 f1 f2 f3 v1 v2 v3 hn hsm HN1
  obtain ⟨dk, dsA, dsn, dsc, dkA, dkn, dkc, dnum, dleast, dmost, dway, dfold⟩ := d
  unfold wrapW wrapD at *
  unfold ND.agg at *
  unfold ND.box at *
  simp only at HB0 HX0 C8 C13 C12 HWW ⊢
  go_enter Try.func3, Try.ntmps3
  go_upto_region 3 with (go_at_call 7; refine (begun7 _).mono ?_; rintro e w1 ⟨rfl, hb⟩; have HB1 := Lib.hid (below_next HB0.out hb); have HX1 := Lib.hid (HX0.out.next hb); clear hb)
  obtain ⟨s0, s1, s2, s3, s4, s5, s6, s7, s8⟩ := HX1.out
  go_upto_region 4 with (go_at_call 8; refine (C8.out _ HB1.out).mono ?_; rintro e w2 ⟨rfl, hb⟩; have HB2 := Lib.hid (below_next HB1.out hb); have HX2 := Lib.hid (HX1.out.next hb); clear hb)
  have HA2 := Lib.hid (show Below w2.heap.size w2 (w2.alloc (.cells #[.int .i64 x1, .int .i64 y1, .bool z1] 28)) from (Below.refl _ _).alloc (Nat.le_refl _) _)
  have HT2 := Lib.hid (TriAt.new w2 x1 y1 z1)
  have HB3 := Lib.hid (below_next HB2.out HA2.out)
  have HX3 := Lib.hid (HX2.out.next HA2.out)
  clear s0 s1 s2 s3 s4 s5 s6 s7 s8
  obtain ⟨s0, s1, s2, s3, s4, s5, s6, s7, s8⟩ := HX3.out
  have HW3 := Lib.hid (HWW.out (w2.alloc (.cells #[.int .i64 x1, .int .i64 y1, .bool z1] 28)))
  have HB4 := Lib.hid (below_next HB3.out HW3.out)
  have HX4 := Lib.hid (HX3.out.next HW3.out)
  have HT4 := Lib.hid (HT2.out.next HW3.out)
  have h3 := C13.out _ HB3.out
  rw [al_size w2] at h3
  have C3 := Lib.hid h3
  clear h3
  go_upto_region 5 with (go_at_call 8; refine C3.out.mono ?_; rintro e w5 ⟨rfl, hb⟩; have HB5 := Lib.hid (below_next HB4.out hb); have HX5 := Lib.hid (HX4.out.next hb); have HT5 := Lib.hid (HT4.out.next hb); clear hb)
  have HA5 := Lib.hid (show Below w5.heap.size w5 (w5.alloc (.cells #[.int .i64 x2, .int .i64 y2, .bool z2] 28)) from (Below.refl _ _).alloc (Nat.le_refl _) _)
  have HU5 := Lib.hid (TriAt.new w5 x2 y2 z2)
  have HB6 := Lib.hid (below_next HB5.out HA5.out)
  have HX6 := Lib.hid (HX5.out.next HA5.out)
  have HT6 := Lib.hid (HT5.out.next HA5.out)
  clear s0 s1 s2 s3 s4 s5 s6 s7 s8
  obtain ⟨s0, s1, s2, s3, s4, s5, s6, s7, s8⟩ := HX6.out
  have HW6 := Lib.hid (HWW.out (w5.alloc (.cells #[.int .i64 x2, .int .i64 y2, .bool z2] 28)))
  have HB7 := Lib.hid (below_next HB6.out HW6.out)
  have HT7 := Lib.hid (HT6.out.next HW6.out)
  have HU7 := Lib.hid (HU5.out.next HW6.out)
  have h6 := C12.out _ HB6.out
  rw [al_size w5] at h6
  have C6 := Lib.hid h6
  clear h6
  go_upto_region 6 with (go_at_call 8; refine C6.out.mono ?_; rintro e w8 ⟨rfl, hb⟩; have HB8 := Lib.hid (below_next HB7.out hb); have HT8 := Lib.hid (HT7.out.next hb); have HU8 := Lib.hid (HU7.out.next hb); clear hb)
  have HA8 := Lib.hid (show Below w8.heap.size w8 (w8.alloc (.cells #[.int .i64 x3, .int .i64 y3, .bool z3] 28)) from (Below.refl _ _).alloc (Nat.le_refl _) _)
  have HV9 := Lib.hid (TriAt.new w8 x3 y3 z3)
  have HB9 := Lib.hid (below_next HB8.out HA8.out)
  obtain ⟨t0, tf, t1, t2, t3⟩ := HT8.out.next HA8.out
  obtain ⟨u0, uf, u1, u2, u3⟩ := HU8.out.next HA8.out
  obtain ⟨v0, vf, v1, v2, v3⟩ := HV9.out
  clear s0 s1 s2 s3 s4 s5 s6 s7 s8
  rcases HS.out with he | ⟨rfl, rfl, rfl⟩ | ⟨rfl, rfl, rfl, ⟨rfl, rfl, rfl, rfl⟩, ⟨p1, p2, p3, p4⟩, h3, h4⟩
  · have heb : (e1 != 0) = true := bne_iff_ne.2 he
    go_wp2_with fail
    go_ret
    exact ⟨rfl, HB8.out.alloc HB8.out.size _⟩
  · go_wp2_with fail
    go_ret
    exact ⟨rfl, HB8.out.alloc HB8.out.size _⟩
  · have HM := Lib.hid h4
    have HM3 := Lib.hid h3
    clear h3 h4
    have q2 : (if 1000000 < 2 * x2 then (1000000 : Int) else 2 * x2) = min 1000000 (2 * x2) := by split <;> omega
    have HM4 := Lib.hid (HM3.out.trans q2.symm)
    clear HM3 q2
    by_cases n2 : 1000000 < 2 * x2
    · rw [if_pos n2] at HM4
      obtain rfl := HM4.out
      by_cases n1 : y2 < 0
      · rw [if_pos (.inl n1)] at HM
        obtain rfl := HM.out
        go_wp2_with fail
        all_goals
          go_ret
          exact ⟨rfl, HB8.out.alloc HB8.out.size _⟩
      · by_cases n3 : 1000000 < 2 * y2
        · rw [if_pos (.inr n3)] at HM
          obtain rfl := HM.out
          go_wp2_with fail
          all_goals
            go_ret
            exact ⟨rfl, HB8.out.alloc HB8.out.size _⟩
        · rw [if_neg (by omega)] at HM
          obtain rfl := HM.out
          go_wp2_with fail
          all_goals
            go_ret
            exact ⟨rfl, HB8.out.alloc HB8.out.size _⟩
    · rw [if_neg n2] at HM4
      obtain rfl := HM4.out
      by_cases n1 : y2 < 0
      · rw [if_pos (.inl n1)] at HM
        obtain rfl := HM.out
        go_wp2_with fail
        all_goals
          go_ret
          exact ⟨rfl, HB8.out.alloc HB8.out.size _⟩
      · by_cases n3 : 1000000 < 2 * y2
        · rw [if_pos (.inr n3)] at HM
          obtain rfl := HM.out
          go_wp2_with fail
          all_goals
            go_ret
            exact ⟨rfl, HB8.out.alloc HB8.out.size _⟩
        · rw [if_neg (by omega)] at HM
          obtain rfl := HM.out
          go_wp2_with fail
          all_goals
            go_ret
            exact ⟨rfl, HB8.out.alloc HB8.out.size _⟩
end Go.Proofs.Ytbekjfoefjnidaa
