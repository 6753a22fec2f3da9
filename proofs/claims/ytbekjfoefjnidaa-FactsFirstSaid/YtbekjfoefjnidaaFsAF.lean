/- First, FactsFirst: walked. -/
import Derived.Test.YtbekjfoefjnidaaFsAE
import Derived.Test.YtbekjfoefjnidaaFsAB
namespace Go.Proofs.Ytbekjfoefjnidaa
open Go.RowKit
set_option linter.unusedVariables false
/-- what First answers -/
structure FirstSaid (t : Tr) (l : List (Int × Int)) (b : Bool) : Prop where
  bad : aloneE t ≠ 0 → l = [] ∧ b = false
  none : aloneE t = 0 → b = ((widT t).1 == 0)
  chk : aloneE t = 0 → chk l = 0
  empty : aloneE t = 0 → (widT t).2 = 0 → l = []
  same : aloneE t = 0 → t.kind = 2 → l = t.set
theorem FirstSaid.few {t : Tr} {l : List (Int × Int)} (he : aloneE t = 0) (h : FSet t l) (hl : ¬ 400 < l.length) : FirstSaid t l ((widT t).1 == 0) :=
  ⟨fun h1 => absurd he h1, fun _ => rfl, fun _ => (chk_ok l).2 ⟨by omega, h.can⟩, fun _ h0 => h.none h0, fun _ hk => h.same hk⟩
theorem FirstSaid.lots {t : Tr} {l : List (Int × Int)} (he : aloneE t = 0) (h : FSet t l) (hl : 400 < l.length) : FirstSaid t [(0, 1114111)] ((widT t).1 == 0) :=
  ⟨fun h1 => absurd he h1, fun _ => rfl, fun _ => by decide, fun _ h0 => (by rw [h.none h0] at hl; simp at hl), fun _ hk => by
    have h1 := h.same hk
    have h2 := ((chk_ok _).1 (right_set_chk ((treeE_ok he).2 t (by rw [flatT_eq]; simp)) hk)).1
    rw [h1] at hl; omega⟩
set_option maxRecDepth 100000 in
set_option maxHeartbeats 4000000 in
theorem first14 (t : Tr) (d : ND) (w : World) (hn : NodeAt w w.heap.size t d) : Calls Try.prog 14 #[d.agg] w fun e w' =>
    ∃ A n c l b, e = .returned (.tuple #[.slice A n c, .bool b, .int .i64 (aloneE t)]) ∧ n ≤ c ∧ c ≤ maxLen ∧ Rds w' w'.heap.size 2 A n (rngs l) ∧ FirstSaid t l b ∧ Below w.heap.size w w' := by
  have HB0 := Lib.hid (ND.box_below w d)
  have HX0 := Lib.hid (BoxN.new w d)
  have C17 := Lib.hid (alone17 t d (d.box w) (hn.next (ND.box_below w d)))
  by_cases he : aloneE t = 0
  · have HE := Lib.hid he
    have C29 := Lib.hid (fun (w1 : World) (h : Below w.heap.size w w1) => first29 t d w1 (NodeAt.map (fun r => (r.below h (Nat.le_refl _)).more h.size) _ _ hn) (treeE_ok he).2 (by have := ((fine_iff t).2 (treeE_ok he).1).1; omega))
    rw [he] at C17 ⊢
    clear hn he
    obtain ⟨b, hbb⟩ : ∃ b, b = ((widT t).1 == 0) := ⟨_, rfl⟩
    have HBB := Lib.hid hbb
    rw [← hbb] at C29
    clear hbb
    obtain ⟨dk, dsA, dsn, dsc, dkA, dkn, dkc, dnum, dleast, dmost, dway, dfold⟩ := d
    unfold ND.agg at *
    unfold patV at C17
    unfold ND.box at *
    simp only at HB0 HX0 C17 C29 ⊢
    go_enter Try.func14, Try.ntmps14
    go_wp2_with fail
    refine C17.out.mono ?_
    rintro en w1 ⟨G, rfl, hb⟩
    have HB1 := Lib.hid (below_next HB0.out hb)
    have HX1 := Lib.hid (HX0.out.next hb)
    have HA1 := Lib.hid (show Below w1.heap.size w1 (w1.alloc (.cells #[.int .i64 dk, .slice dsA dsn dsc, .slice dkA dkn dkc, .int .i64 dnum, .int .i64 dleast, .int .i64 dmost, .int .i64 dway, .bool dfold, .int .i64 G, .slice none 0 0] 38)) from (Below.refl _ _).alloc (Nat.le_refl _) _)
    have HX2 := Lib.hid (HX1.out.next HA1.out)
    have HB2 := Lib.hid (below_next HB1.out HA1.out)
    obtain ⟨x0, x1, x2, x3, x4, x5, x6, x7, x8⟩ := HX2.out
    clear hb
    go_upto_region 5 with (go_at_call 29; refine (C29.out _ HB2.out).mono ?_; rintro en w2 ⟨A, n, c, l, rfl, q1, q2, q3, q4, hb⟩; have HB3 := Lib.hid (below_next HB2.out hb); clear hb)
    have HL := Lib.hid q3.rngs_len
    have HF := Lib.hid q4
    have hs2 := HB3.out.size
    have hnb : n ≤ 400000 := by have h1 := HL.out; have h2 := HF.out.len; have h3 := ((fine_iff t).2 (treeE_ok HE.out).1).1; omega
    clear x0 x1 x2 x3 x4 x5 x6 x7 x8
    by_cases h4 : 400 < n
    · have R0 := Rds.new w2 2 1 #[.int .i64 0, .int .i64 1114111] 46 (rngs [(0, 1114111)]) rfl rfl
      have R := Lib.hid ((R0.alloc (by rw [al_size]; exact Nat.le_refl _) (.cells #[] 46)).more (B' := w2.heap.size + 2) (by omega))
      have hown := own_new (w2.alloc (.cells #[.int .i64 0, .int .i64 1114111] 46)) w2.heap.size 46 2 0 #[] (by rw [al_size]; omega) rfl (by decide)
      rw [al_size] at hown
      have HOWN := Lib.hid (show World.ownsRow _ _ 46 2 _ 0 (rngs []) from hown)
      clear hown R0
      go_wp2_with (at_builtin; refine app_rngs _ _ HOWN.out R.out (by omega) (by rw [al_size, al_size]; omega) rfl rfl rfl rfl ?_; intro v' w4 h1 h2 _; simp only [Nat.zero_add, List.nil_append] at h1; have HO4 := Lib.hid h1; have HB4 := Lib.hid (grown_own (((HB3.out.alloc hs2 _).alloc (by rw [al_size]; omega) _)) HOWN.out h2 (by omega) (by rw [al_size, al_size]; omega)); obtain ⟨A4, c4, rfl, hc4, hc4'⟩ := own_slice h1; clear h1 h2)
      go_ret3
      exact ⟨A4, _, c4, _, b, rfl, hc4, hc4', Rds.of_own HO4.out, by rw [HBB.out]; exact FirstSaid.lots HE.out HF.out (by rw [← HL.out] at h4; exact h4), HB4.out⟩
    · have hown := own_new w2 w2.heap.size 46 2 0 #[] (Nat.le_refl _) rfl (by decide)
      have HOWN := Lib.hid (show World.ownsRow _ _ 46 2 _ 0 (rngs []) from hown)
      have R := Lib.hid ((q3.alloc (Nat.le_refl _) (.cells #[] 46)).more (B' := w2.heap.size + 1) (by omega))
      clear hown
      go_wp2_with (at_builtin; refine app_rngs _ _ HOWN.out R.out (by omega) (by rw [al_size]; omega) rfl rfl rfl rfl ?_; intro v' w4 h1 h2 _; simp only [Nat.zero_add, List.nil_append] at h1; have HO4 := Lib.hid h1; have HB4 := Lib.hid (grown_own (HB3.out.alloc hs2 _) HOWN.out h2 (by omega) (by rw [al_size]; omega)); obtain ⟨A4, c4, rfl, hc4, hc4'⟩ := own_slice h1; clear h1 h2)
      go_ret3
      exact ⟨A4, _, c4, _, b, rfl, hc4, hc4', Rds.of_own HO4.out, by rw [HBB.out]; exact FirstSaid.few HE.out HF.out (by rw [← HL.out] at h4; exact h4), HB4.out⟩
  · have HE := Lib.hid he
    obtain ⟨ee, hee⟩ : ∃ x, x = aloneE t := ⟨_, rfl⟩
    rw [← hee] at C17 he ⊢
    clear hee hn
    have heb : (ee != 0) = true := bne_iff_ne.2 he
    obtain ⟨dk, dsA, dsn, dsc, dkA, dkn, dkc, dnum, dleast, dmost, dway, dfold⟩ := d
    unfold ND.agg at *
    unfold patV at C17
    unfold ND.box at *
    simp only at HB0 HX0 C17 ⊢
    obtain ⟨x0, x1, x2, x3, x4, x5, x6, x7, x8⟩ := HX0.out
    go_enter Try.func14, Try.ntmps14
    go_wp2_with fail
    refine C17.out.mono ?_
    rintro en w1 ⟨G, rfl, hb⟩
    have HB1 := Lib.hid (below_next HB0.out hb)
    clear hb
    go_wp2_with fail
    go_ret3
    exact ⟨none, 0, 0, [], false, rfl, Nat.le_refl _, Nat.zero_le _, Rds.nil_ _ _ _ _, ⟨fun _ => ⟨rfl, rfl⟩, fun h => absurd h HE.out, fun h => absurd h HE.out, fun h => absurd h HE.out, fun h => absurd h HE.out⟩, HB1.out.alloc HB1.out.size _⟩
set_option maxRecDepth 100000 in
set_option maxHeartbeats 4000000 in
theorem lawFactsFirst (t : Tr) (d : ND) (w : World) (hn : NodeAt w w.heap.size t d) (hsm : Small t) : Calls Try.prog 6 #[d.agg] w fun e w' => e = .returned (.bool true) ∧ Below w.heap.size w w' := by
  have HB0 := Lib.hid (ND.box_below w d)
  have HX0 := Lib.hid (BoxN.new w d)
  have HN1 := Lib.hid (fun (w1 : World) (h : Below w.heap.size w w1) => (NodeAt.map (fun r => (r.below h (Nat.le_refl _)).more h.size) _ _ hn : NodeAt w1 w1.heap.size t d))
  have C14 := Lib.hid (first14 t d (d.box w) (hn.next (ND.box_below w d)))
  have C9 := Lib.hid (fun (w1 : World) (h : Below w.heap.size w w1) => alone9 t d w1 (HN1.out w1 h) hsm)
  obtain ⟨ds, hno⟩ := hn.of
  by_cases he : aloneE t = 0
  · have C10 := Lib.hid (fun (w1 : World) (h : Below w.heap.size w w1) => wideR t d w1 (HN1.out w1 h) (treeE_ok he).2)
    have HE := Lib.hid he
    have HK := Lib.hid hno.kind
    have HSR := Lib.hid (And.intro hno.set (Nat.le_trans hno.sc1 hno.sc2))
    rw [he] at C14 C9
    unfold wT at C10
    clear hn hsm he hno
    obtain ⟨r, hr⟩ : ∃ r, r = widT t := ⟨_, rfl⟩
    have HW := Lib.hid hr
    rw [← hr] at C10
    clear hr
    obtain ⟨r1, r2⟩ := r
    obtain ⟨dk, dsA, dsn, dsc, dkA, dkn, dkc, dnum, dleast, dmost, dway, dfold⟩ := d
    unfold ND.agg at *
    unfold ND.box at *
    simp only at HB0 HX0 C14 C9 C10 HK HSR ⊢
    obtain ⟨x0, x1, x2, x3, x4, x5, x6, x7, x8⟩ := HX0.out
    go_enter Try.func6, Try.ntmps6
    go_upto_region 2 with (go_at_call 14; refine C14.out.mono ?_; rintro e w1 ⟨A, n, c, l, b, rfl, q1, q2, q3, q4, hb⟩; have HB1 := Lib.hid (below_next HB0.out hb); have HX1 := Lib.hid (HX0.out.next hb); have HS := Lib.hid q4; clear hb q4; have hb1 : w1.heap.size ≤ w1.heap.size := Nat.le_refl _)
    clear x0 x1 x2 x3 x4 x5 x6 x7 x8
    obtain ⟨x0, x1, x2, x3, x4, x5, x6, x7, x8⟩ := HX1.out
    have HR1 := Lib.hid q3
    have HL1 := Lib.hid q3.rngs_len
    unfold maxLen at q2
    clear q3
    go_upto_region 3 with (go_at_call 9; refine (C9.out _ HB1.out).mono ?_; rintro e w2 ⟨rfl, hb⟩; have HB2 := Lib.hid (below_next HB1.out hb); have HX2 := Lib.hid (HX1.out.next hb); have HR2 := Lib.hid ((HR1.out.below hb (Nat.le_refl _)).more hb.size); clear hb)
    clear x0 x1 x2 x3 x4 x5 x6 x7 x8
    go_upto_region 5 with (go_at_call 7; refine (begun7 _).mono ?_; rintro e w3 ⟨rfl, hb⟩; have HB3 := Lib.hid (below_next HB2.out hb); have HX3 := Lib.hid (HX2.out.next hb); have HR3 := Lib.hid ((HR2.out.below hb (Nat.le_refl _)).more hb.size); obtain ⟨x0, x1, x2, x3, x4, x5, x6, x7, x8⟩ := HX3.out; clear hb)
    go_upto_region 6 with (go_at_call 10; refine (C10.out _ HB3.out).mono ?_; rintro e w4 ⟨rfl, hb⟩; have HB4 := Lib.hid (below_next HB3.out hb); have HX4 := Lib.hid (HX3.out.next hb); have HR4 := Lib.hid ((HR3.out.below hb (Nat.le_refl _)).more hb.size); clear hb)
    clear x0 x1 x2 x3 x4 x5 x6 x7 x8
    obtain ⟨x0, x1, x2, x3, x4, x5, x6, x7, x8⟩ := HX4.out
    have hbb : b = (r1 == 0) := by rw [HS.out.none HE.out, ← HW.out]
    subst hbb
    have HCK := Lib.hid (HS.out.chk HE.out)
    by_cases hk2 : dk = 2
    · have HEQ := Lib.hid (HS.out.same HE.out (by rw [← HK.out]; exact hk2))
      have HSS := Lib.hid (show sameS l t.set = true by rw [HEQ.out]; simp [sameS])
      subst hk2
      by_cases h0 : r2 = 0
      · subst h0
        have hn0 : n = 0 := by have h := HS.out.empty HE.out (by rw [← HW.out]); have h2 := HL1.out; rw [h] at h2; exact h2.symm
        subst hn0
        have i0 : ((0 : Nat) : Int) = 0 := rfl
        go_wp2_with (first | (go_at_call 15; refine (checkSet_any l A _ c w4 _ (by unfold maxLen; omega) HR4.out).mono ?_; rintro e w5 ⟨he, q, rfl⟩; rw [HCK.out] at he; subst he; have HB5 := Lib.hid (below_drewN HB4.out q); have HR5 := Lib.hid (show Rds (w4.drewN q) w4.heap.size 2 A _ (rngs l) from HR4.out); have HD5 := Lib.hid (show Rds (w4.drewN q) w.heap.size 2 dsA dsn (rngs t.set) from HSR.out.1.below HB5.out (Nat.le_refl _))) | (go_at_call 16; refine (sameSet_any l t.set A dsA _ dsn c dsc _ _ _ (by unfold maxLen; omega) (Nat.le_trans (Nat.le_refl _) HSR.out.2) HR5.out HD5.out).mono ?_; rintro e w6 ⟨he, q', rfl⟩; rw [HSS.out] at he; subst he; have HB5 := Lib.hid (below_drewN HB5.out q')))
        all_goals
          go_ret
          exact ⟨rfl, below_drewN HB4.out _⟩
      · have hrb : (r2 != 0) = true := bne_iff_ne.2 h0
        go_wp2_with (first | (go_at_call 15; refine (checkSet_any l A _ c w4 _ (by unfold maxLen; omega) HR4.out).mono ?_; rintro e w5 ⟨he, q, rfl⟩; rw [HCK.out] at he; subst he; have HB5 := Lib.hid (below_drewN HB4.out q); have HR5 := Lib.hid (show Rds (w4.drewN q) w4.heap.size 2 A _ (rngs l) from HR4.out); have HD5 := Lib.hid (show Rds (w4.drewN q) w.heap.size 2 dsA dsn (rngs t.set) from HSR.out.1.below HB5.out (Nat.le_refl _))) | (go_at_call 16; refine (sameSet_any l t.set A dsA _ dsn c dsc _ _ _ (by unfold maxLen; omega) (Nat.le_trans (Nat.le_refl _) HSR.out.2) HR5.out HD5.out).mono ?_; rintro e w6 ⟨he, q', rfl⟩; rw [HSS.out] at he; subst he; have HB5 := Lib.hid (below_drewN HB5.out q')))
        all_goals
          go_ret
          exact ⟨rfl, below_drewN HB4.out _⟩
    · have hkb : (dk != 2) = true := bne_iff_ne.2 hk2
      by_cases h0 : r2 = 0
      · subst h0
        have hn0 : n = 0 := by have h := HS.out.empty HE.out (by rw [← HW.out]); have h2 := HL1.out; rw [h] at h2; exact h2.symm
        subst hn0
        have i0 : ((0 : Nat) : Int) = 0 := rfl
        go_wp2_with (go_at_call 15; refine (checkSet_any l A _ c w4 _ (by unfold maxLen; omega) HR4.out).mono ?_; rintro e w5 ⟨he, q, rfl⟩; rw [HCK.out] at he; subst he; have HB5 := Lib.hid (below_drewN HB4.out q))
        all_goals
          go_ret
          exact ⟨rfl, below_drewN HB4.out _⟩
      · have hrb : (r2 != 0) = true := bne_iff_ne.2 h0
        go_wp2_with (go_at_call 15; refine (checkSet_any l A _ c w4 _ (by unfold maxLen; omega) HR4.out).mono ?_; rintro e w5 ⟨he, q, rfl⟩; rw [HCK.out] at he; subst he; have HB5 := Lib.hid (below_drewN HB4.out q))
        all_goals
          go_ret
          exact ⟨rfl, below_drewN HB4.out _⟩
  · have HE := Lib.hid he
    obtain ⟨ee, hee⟩ : ∃ x, x = aloneE t := ⟨_, rfl⟩
    rw [← hee] at C14 C9 he
    clear hee hn hno
    have heb : (ee != 0) = true := bne_iff_ne.2 he
    obtain ⟨dk, dsA, dsn, dsc, dkA, dkn, dkc, dnum, dleast, dmost, dway, dfold⟩ := d
    unfold ND.agg at *
    unfold ND.box at *
    simp only at HB0 HX0 C14 C9 ⊢
    obtain ⟨x0, x1, x2, x3, x4, x5, x6, x7, x8⟩ := HX0.out
    go_enter Try.func6, Try.ntmps6
    go_upto_region 2 with (go_at_call 14; refine C14.out.mono ?_; rintro e w1 ⟨A, n, c, l, b, rfl, q1, q2, q3, q4, hb⟩; have HB1 := Lib.hid (below_next HB0.out hb); have HX1 := Lib.hid (HX0.out.next hb); have HS := Lib.hid q4; clear hb q4)
    clear x0 x1 x2 x3 x4 x5 x6 x7 x8
    obtain ⟨x0, x1, x2, x3, x4, x5, x6, x7, x8⟩ := HX1.out
    obtain ⟨rfl, rfl⟩ := HS.out.bad HE.out
    obtain rfl : n = 0 := by have h := q3.rngs_len; exact h.symm
    clear q3
    have eeb : (ee != ee) = false := by simp
    go_wp2_with (first
      | (go_at_call 9; refine (C9.out _ HB1.out).mono ?_; rintro e w2 ⟨rfl, hb⟩; have HB2 := Lib.hid (below_next HB1.out hb); clear hb)
      | (go_at_call 7; refine (begun7 _).mono ?_; rintro e w3 ⟨rfl, hb⟩; have HB2 := Lib.hid (below_next HB2.out hb); clear hb))
    all_goals
      go_ret
      exact ⟨rfl, HB2.out⟩
end Go.Proofs.Ytbekjfoefjnidaa
