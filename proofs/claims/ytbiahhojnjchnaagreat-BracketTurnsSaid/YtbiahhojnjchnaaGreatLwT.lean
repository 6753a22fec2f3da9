/- BracketTurns: walked. -/
import Derived.Test.YtbiahhojnjchnaaGreatHB
import Derived.Test.YtbiahhojnjchnaaGreatGG
import Derived.Test.YtbiahhojnjchnaaGreatGH
set_option linter.unusedVariables false
set_option linter.unusedSimpArgs false
namespace Go.Proofs.YtbiahhojnjchnaaGreat
open Go.RowKit
theorem app_intz {w : World} {ops : Array Oper} {rest : List Oper} {o : Oper} {a : Act} {Q : Exit → Act → World → Prop} (s x : Operand) {base B n m c : Nat} {A : Option Addr} {v : Value} {xs ys : List Int}
    (hown : w.ownsRow base 3 1 v n (ints xs)) (hr : Rds w B 1 A m (ints ys)) (hlen : (n + m) * 8 ≤ 140737488355328) (hbase : base ≤ w.heap.size) (hgd : o.guard = none)
    (ho : o.op = .call { callee := .builtin .append, args := #[s, x], argTypes := #[22, 22] }) (hs : a.eval s = v) (hx : a.eval x = .slice A m c)
    (h : ∀ v' w', w'.ownsRow base 3 1 v' (n + m) (ints (xs ++ ys)) → w.grownBy w' v.ownBlock → (v'.ownBlock = v.ownBlock ∨ v'.ownBlock = some w.heap.size) → wpList Tryz.prog ops Q rest (a.put o.dst v') w') :
    wpList Tryz.prog ops Q (o :: rest) a w := by
  obtain ⟨i0, hi0, hz0, hz1, hz2⟩ := info_parts int_info
  refine wpList_append_rds w hgd s x _ ho base 3 i0 _ 1 8 Tryz.underlying22 hi0 hz0 hz1 hz2 rfl (by omega) v n _ hs hown B A m c _ hx hr (ints_one _) (by unfold maxLen; omega) (by omega) hbase ?_
  intro v' w' h1 h2 h3
  exact h v' w' (by rw [← ints_append] at h1; exact h1) h2 h3
/-- what is told of an expression, and of it turned over -/
theorem turns_plain {d : Int} {l : List Int} {fo : Bool} {A1 A2 : Option Addr} {n1 n2 : Nat} {v1 v2 y1 y2 : Int} {w1 w2 : World} (p : Int) (hno : saysB l 0 [94] = false) {o1 o2 : List (Int × Int)}
    (h1 : ∃ f, allP d l fo 0 = .ok (f, v1) ∧ IsSet o1 f ∧ o1.length ≤ 400) (h2 : ∃ f, allP d (94 :: l) fo 0 = .ok (f, v2) ∧ IsSet o2 f ∧ o2.length ≤ 400) :
    v2 = v1 + 1 ∧ hasE o2 p = hasE o1 p ∧ (hasE o1 p = 0 → hasB o2 p = !hasB o1 p) := by
  obtain ⟨f, e1, s1, k1⟩ := h1
  obtain ⟨g, e2, s2, k2⟩ := h2
  rw [all_turned d l fo hno, e1] at e2
  have e3 : (fun p => 0 ≤ p ∧ p ≤ 1114111 ∧ ¬ f p) = g ∧ 1 + v1 = v2 := by simpa [shB, turnB] using e2
  obtain ⟨rfl, rfl⟩ := e3
  have c1 : chk o1 = 0 := (chk_ok o1).2 ⟨k1, s1.1⟩
  have c2 : chk o2 = 0 := (chk_ok o2).2 ⟨k2, s2.1⟩
  have hE : hasE o2 p = hasE o1 p := by simp [hasE, c1, c2]
  refine ⟨by omega, hE, fun h => ?_⟩
  have hp : 0 ≤ p ∧ p ≤ 1114111 := by
    unfold hasE at h
    rw [if_pos c1] at h
    by_cases hc : (decide (0 ≤ p) && decide (p ≤ 1114111)) = true
    · simpa using hc
    · rw [if_neg hc] at h; cases h
  have h2 : hasE o2 p = 0 := hE.trans h
  simp only [hasB, h, h2, decide_true, Bool.true_and]
  rw [Bool.eq_iff_iff, Bool.not_eq_true', ← Bool.not_eq_true, memB_iff, memB_iff, s1.2 p, s2.2 p]
  exact ⟨fun k => k.2.2, fun k => ⟨hp.1, hp.2, k⟩⟩
set_option maxRecDepth 100000 in
set_option maxHeartbeats 8000000 in
theorem lawBracketTurns (d : Int) (l : List Int) (A : Option Addr) (n c : Nat) (fo : Bool) (p : Int) (w : World) (hn : n ≤ 17592186044415) (hnc : n ≤ c) (hc : c ≤ maxLen) (ha : Rds w w.heap.size 1 A n (ints l)) :
    Calls Tryz.prog 5 #[.int .i64 d, .slice A n c, .bool fo, .int .i64 p] w fun e w' => e = .returned (.bool true) ∧ Below w.heap.size w w' := by
  have HA := Lib.hid ha
  have HLN := Lib.hid ha.ints_len
  clear ha
  go_enter Tryz.func5, Tryz.ntmps5
  go_upto_region 3 with (first
    | (go_at_call 15; (with_reducible refine (begun15 _).mono ?_); rintro e w1 ⟨rfl, hb1⟩)
    | (go_at_call 17; (with_reducible refine (setBegun29 _).mono ?_); rintro e w2 ⟨rfl, hb2⟩))
  have HB2 := Lib.hid (hb1.trans (hb2.mono hb1.size))
  clear hb1 hb2
  obtain ⟨g, hg⟩ : ∃ g, g = (decide (0 < n) && decide (ptAt l 0 = 94)) := ⟨_, rfl⟩
  have HG := Lib.hid hg
  clear hg
  go_cut [33] from 25 to 33 (fun z wc => z = .bool g ∧ wc = w2)
  · by_cases h0 : n = 0
    · have e1 : (decide ((0 : Int) < (n : Int))) = false := decide_eq_false (by omega)
      go_wp2_with fail
      go_meet
      exact ⟨congrArg Value.bool (by rw [HG.out]; simp [h0]), rfl⟩
    · obtain ⟨b1, off1, hl1, hA1, hlt1, hc1⟩ := (HA.out.below HB2.out (Nat.le_refl _)).int_at (k := 0) (by omega)
      have hp := ptAt_in l hl1
      obtain ⟨x, hx⟩ : ∃ x, x = l[0] := ⟨_, rfl⟩
      rw [← hx, Nat.add_zero] at hc1
      rw [← hx] at hp
      have HPT := Lib.hid hp
      have H0 := Lib.hid h0
      clear hx hp h0
      subst hA1
      have i1 : (0 : Int) < (n : Int) := by have := H0.out; omega
      have e1 : (decide ((0 : Int) < (n : Int))) = true := decide_eq_true i1
      go_wp2_with fail
      all_goals
        go_meet
        refine ⟨congrArg Value.bool ?_, rfl⟩
        rw [HG.out, show ptAt l 0 = x from HPT.out]
        have := H0.out
        have h9 : 0 < n := by omega
        simp [h9]
        try rfl
  · obtain ⟨rfl, rfl⟩ := hcut
    go_upto_if 33 with (fail)
    go_cut [1] from 33 to 35 (fun z wx => ∃ A1 n1 c1 l1, z = .slice A1 n1 c1 ∧ n1 ≤ c1 ∧ n1 ≤ 17592186044415 ∧ Hid (Rds wx w.heap.size 1 A1 n1 (ints l1)) ∧ Hid (Below w.heap.size w wx))
    · cases g with
      | false =>
        go_wp2_with fail
        go_meet
        exact ⟨A, n, c, l, rfl, hnc, hn, Lib.hid (HA.out.below HB2.out (Nat.le_refl _)), HB2⟩
      | true =>
        have hg := HG.out.symm
        simp only [Bool.and_eq_true, decide_eq_true_eq] at hg
        have i2 : (1 : Int) ≤ (n : Int) := by omega
        obtain ⟨b1, off1, hA1, hb1, -⟩ := HA.out.2 hg.1
        have HA1 := Lib.hid hA1
        clear hA1
        go_wp2_with fail
        all_goals go_meet
        · exact ⟨_, _, _, [], rfl, by omega, by omega, Lib.hid ⟨by simp [ints]; omega, fun h => absurd h (by omega)⟩, HB2⟩
        · exact ⟨_, _, _, runPts l 1 (n - 1), rfl, by omega, by omega, Lib.hid (Rds.part (by have := HA.out.below HB2.out (Nat.le_refl _); rw [HA1.out] at this; exact this) hg.1 (a := 1) (k := n - 1) (by omega) (fun _ => by rw [HA1.out]; rfl)), HB2⟩
    · obtain ⟨A1, n1, c1, l1, rfl, hnc1, hn1, HA1, HB3⟩ := hcut
      clear HA HLN HG HB2 hn hnc hc
      have hm1 : n1 ≤ maxLen := by unfold maxLen; omega
      have HL1 := Lib.hid HA1.out.ints_len
      have hsz3 := HB3.out.size
      have CP1 := Lib.hid (parseP d 0 fo l1 A1 n1 c1 wc hm1 hnc1 (HA1.out.more hsz3))
      go_upto_region 6 with (first
        | (go_at_call 12; (with_reducible refine CP1.out.mono ?_); rintro e w4 ⟨A2, n2, v1, x1, y1, rfl, ht, hb⟩; have HT1 := Lib.hid ht.out; have HB34 := hb.mono hsz3; have HB4 := Lib.hid (HB3.out.trans HB34); clear ht hb))
      obtain ⟨⟨hn2, hv10, hv11⟩, o1, hr1, hx1⟩ := HT1.out.row
      have HX1 := Lib.hid hx1
      obtain ⟨X, hX⟩ : ∃ X, X = w4.alloc (.cells #[.int .i64 x1, .int .i64 y1] 26) := ⟨_, rfl⟩
      have hbx : Below w4.heap.size w4 X := by rw [hX]; exact (Below.refl _ _).alloc (Nat.le_refl _) _
      have HBX := Lib.hid (HB4.out.trans (hbx.mono HB4.out.size))
      have HRX := Lib.hid ((hr1.below hbx (Nat.le_refl _)).more (B' := X.heap.size) hbx.size)
      have HZX := Lib.hid (show X.heap[w4.heap.size]? = some (.cells #[.int .i64 x1, .int .i64 y1] 26 (0, 0)) by rw [hX]; exact heap_alloc_new w4 _)
      have HAX := Lib.hid ((HA1.out.below HB34 (Nat.le_refl _)).below (hbx.mono HB4.out.size) (Nat.le_refl _))
      rw [← hX]
      clear hX hbx hr1 hx1 HB4 HB34 HT1 CP1 HB3 HA1 hsz3
      have hszX := HBX.out.size
      have HO := Lib.hid (own_new X w.heap.size 3 1 1 #[.int .i64 94] hszX rfl (by unfold maxLen; omega))
      have hbA : Below X.heap.size X (X.alloc (.cells #[.int .i64 94] 3)) := (Below.refl _ _).alloc (Nat.le_refl _) _
      have HAA := Lib.hid (HAX.out.below (hbA.mono hszX) (Nat.le_refl _))
      have HBA := Lib.hid hbA
      clear hbA
      go_upto_region 7 with (first
        | (at_builtin; refine app_intz (.tmp 46) (.tmp 47) (base := w.heap.size) (xs := [94]) (ys := l1) (n := 1) (m := n1) HO.out HAA.out (by omega) (by have := HBA.out.size; omega) rfl rfl rfl rfl ?_; intro v3 w6 hown3 hg3 hat3; obtain ⟨A3, c3, rfl, hc3, hm3⟩ := own_slice hown3; have HB6 := Lib.hid (show Below X.heap.size X w6 from HBA.out.grown hg3 HBA.out.size (fun g hg => by simp [Value.ownBlock] at hg; omega)); have CP2 := Lib.hid (parseP d 0 fo ([94] ++ l1) A3 (1 + n1) c3 w6 (by unfold maxLen; omega) hc3 (Rds.of_own hown3)); clear hown3 hg3 hat3)
        | (go_at_call 12; (with_reducible refine CP2.out.mono ?_); rintro e w7 ⟨A4, n4, v2, x2, y2, rfl, ht, hb⟩; have HT2 := Lib.hid ht.out; have HB7 := Lib.hid (HB6.out.trans (hb.mono HB6.out.size)); clear ht hb))
      obtain ⟨⟨hn4, hv20, hv21⟩, o2, hr2, hx2⟩ := HT2.out.row
      have HX2 := Lib.hid hx2
      obtain ⟨Y, hY⟩ : ∃ Y, Y = w7.alloc (.cells #[.int .i64 x2, .int .i64 y2] 26) := ⟨_, rfl⟩
      have hby : Below w7.heap.size w7 Y := by rw [hY]; exact (Below.refl _ _).alloc (Nat.le_refl _) _
      have hXY : Below X.heap.size X Y := HB7.out.trans (hby.mono HB7.out.size)
      have HBY := Lib.hid (HBX.out.trans (hXY.mono hszX))
      have HR1 := Lib.hid ((HRX.out.below hXY (Nat.le_refl _)).more (B' := Y.heap.size) hXY.size)
      have HR2 := Lib.hid ((hr2.below hby (Nat.le_refl _)).more (B' := Y.heap.size) hby.size)
      have HAY := Lib.hid (HAX.out.below (hXY.mono hszX) (Nat.le_refl _))
      have f1 := cell_of_row _ _ 0 _ _ _ (row_next HZX.out hXY)
      have f2 := cell_of_row _ _ 0 _ _ _ (show Y.heap[w7.heap.size]? = some (.cells #[.int .i64 x2, .int .i64 y2] 26 (0, 0)) by rw [hY]; exact heap_alloc_new w7 _)
      rw [← hY]
      have hszY := HBY.out.size
      clear hY hby hXY hr2 hx2 HT2 CP2 HB7 HB6 HBA HAA HO HBX HRX HZX HAX hc3 hm3
      by_cases hx1 : x1 = 0
      · have e1 : (x1 != 0) = false := by simpa using hx1
        have H1 := Lib.hid hx1
        clear hx1
        by_cases hx2 : x2 = 0
        · have e2 : (x2 != 0) = false := by simpa using hx2
          have H2 := Lib.hid hx2
          clear hx2
          by_cases hlong : 300 ≤ n1
          · have e3 : (decide ((300 : Int) ≤ (n1 : Int))) = true := decide_eq_true (by omega)
            go_wp2_with fail
            all_goals go_ret
            all_goals exact ⟨rfl, HBY.out⟩
          · have e3 : (decide ((300 : Int) ≤ (n1 : Int))) = false := decide_eq_false (by omega)
            go_upto_region 9 with (fail)
            obtain ⟨g, hg⟩ : ∃ g, g = (decide (0 < n1) && decide (ptAt l1 0 = 94)) := ⟨_, rfl⟩
            have HG := Lib.hid hg
            clear hg
            go_cut [75] from 67 to 75 (fun z wx => z = .bool g ∧ wx = Y)
            · by_cases h0 : n1 = 0
              · have e1 : (decide ((0 : Int) < (n1 : Int))) = false := decide_eq_false (by omega)
                go_wp2_with fail
                go_meet
                exact ⟨congrArg Value.bool (by rw [HG.out]; simp [h0]), rfl⟩
              · obtain ⟨b1, off1, hl1, hA1, hlt1, hc1⟩ := HAY.out.int_at (k := 0) (by omega)
                have hp := ptAt_in l1 hl1
                obtain ⟨x, hx⟩ : ∃ x, x = l1[0] := ⟨_, rfl⟩
                rw [← hx, Nat.add_zero] at hc1
                rw [← hx] at hp
                have HPT := Lib.hid hp
                have H0 := Lib.hid h0
                clear hx hp h0
                subst hA1
                have i1 : (0 : Int) < (n1 : Int) := by have := H0.out; omega
                have e1 : (decide ((0 : Int) < (n1 : Int))) = true := decide_eq_true i1
                go_wp2_with fail
                all_goals
                  go_meet
                  refine ⟨congrArg Value.bool ?_, rfl⟩
                  rw [HG.out, show ptAt l1 0 = x from HPT.out]
                  have := H0.out
                  have h9 : 0 < n1 := by omega
                  simp [h9]
                  try rfl
            · obtain ⟨rfl, rfl⟩ := hcut
              cases g with
              | true =>
                go_wp2_with fail
                go_ret
                exact ⟨rfl, HBY.out⟩
              | false =>
                have hno : saysB l1 0 [94] = false := by
                  have h := HG.out.symm
                  have hl := HL1.out
                  by_cases h0 : 0 < n1
                  · rw [decide_eq_true h0, Bool.true_and] at h
                    simp [saysB, of_decide_eq_false h]
                  · simp [saysB, ptAt_out l1 (p := 0) (by omega)]
                have PL := Lib.hid (turns_plain (d := d) (fo := fo) (w1 := wc) (w2 := wc) (A1 := A2) (A2 := A4) (n1 := n2) (n2 := n4) (y1 := y1) (y2 := y2) p hno (HX1.out H1.out) (HX2.out H2.out))
                have C1 := Lib.hid (has42 o1 p A2 n2 n2 wc (Nat.le_refl _) (by unfold maxLen; omega) HR1.out)
                have hm4 : n4 ≤ maxLen := by unfold maxLen; omega
                obtain ⟨E, hE⟩ : ∃ E, E = hasE o1 p := ⟨_, rfl⟩
                obtain ⟨P, hP⟩ : ∃ P, P = hasB o1 p := ⟨_, rfl⟩
                rw [← hE, ← hP] at C1
                obtain ⟨hv, hE2, hB2⟩ := PL.out
                rw [← hE] at hE2
                have HBB := Lib.hid (show E = 0 → hasB o2 p = !P by rw [hE, hP]; exact hB2)
                have HEE := Lib.hid hE2
                have HV := Lib.hid hv
                have W1 : IntKind.i64.wrap (v1 + 1) = v1 + 1 := IntWalk.i64_in _ (by omega)
                have e4 : (v2 == v1 + 1) = true := by simpa using hv
                obtain ⟨Q, hQ⟩ : ∃ Q, Q = hasB o2 p := ⟨_, rfl⟩
                rw [← hQ] at HBB
                have C2 := Lib.hid (fun W (h : Rds W W.heap.size 2 A4 n4 (rngs o2)) => show Calls Tryz.prog 20 #[.slice A4 n4 n4, .int .i64 p] W fun e w' => e = .returned (.tuple #[.bool Q, .int .i64 E]) ∧ Below W.heap.size W w' by rw [hQ, ← HEE.out]; exact has42 o2 p A4 n4 n4 W (Nat.le_refl _) hm4 h)
                clear hE hP hB2 hE2 hv PL hno hQ HEE
                go_upto_region 13 with (first
                  | (go_at_call 20; (with_reducible refine C1.out.mono ?_); rintro e w8 ⟨rfl, hb⟩; have HR8 := Lib.hid ((HR2.out.below hb (Nat.le_refl _)).more (B' := w8.heap.size) hb.size); have HB8 := Lib.hid (HBY.out.trans (hb.mono hszY)); clear hb C1)
                  | (go_at_call 20; (with_reducible refine (C2.out _ HR8.out).mono ?_); rintro e w9 ⟨rfl, hb⟩; have HB9 := Lib.hid (HB8.out.trans (hb.mono HB8.out.size)); clear hb))
                by_cases hE0 : E = 0
                · have e5 : (E != 0) = false := by simpa using hE0
                  have hq := HBB.out hE0
                  subst hq
                  clear hE0
                  cases P
                  all_goals
                    go_wp2_with fail
                    go_ret
                    exact ⟨rfl, HB9.out⟩
                · have e5 : (E != 0) = true := by simpa using hE0
                  clear hE0
                  go_wp2_with fail
                  go_ret
                  exact ⟨rfl, HB9.out⟩
        · have e2 : (x2 != 0) = true := by simpa using hx2
          go_wp2_with fail
          all_goals go_ret
          all_goals exact ⟨rfl, HBY.out⟩
      · have e1 : (x1 != 0) = true := by simpa using hx1
        go_wp2_with fail
        all_goals go_ret
        all_goals exact ⟨rfl, HBY.out⟩
end Go.Proofs.YtbiahhojnjchnaaGreat
