/- BracketFolds: walked. -/
import Derived.Test.YtbiahhojnjchnaaGreatHB
import Derived.Test.YtbiahhojnjchnaaGreatGG
import Derived.Test.YtbiahhojnjchnaaGreatBgFo
import Derived.Test.YtbiahhojnjchnaaGreatGL
set_option linter.unusedVariables false
set_option linter.unusedSimpArgs false
namespace Go.Proofs.YtbiahhojnjchnaaGreat
open Go.RowKit
theorem foldP_eq {o : List (Int × Int)} {f : Int → Prop} (h : IsSet o f) : FoldP o = foldQ true f := by
  rw [← mem_fun h]
  funext q
  simp [foldQ, FoldP]
/-- what is told of an expression without ^ and &, and of it folded -/
theorem folds_plain {d : Int} {l : List Int} {A1 A2 : Option Addr} {n1 n2 : Nat} {v1 v2 x1 x2 y1 y2 : Int} {w1 w2 : World} (h94 : ∀ y ∈ l, y ≠ 94) (h38 : ∀ y ∈ l, y ≠ 38)
    (t1 : PTell d l false 0 A1 n1 v1 x1 y1 w1) (t2 : PTell d l true 0 A2 n2 v2 x2 y2 w2) :
    (x1 ≠ 0 → x2 = x1 ∨ x1 = 2) ∧ (x1 = 0 → ∃ o1 s, Rds w1 w1.heap.size 2 A1 n1 (rngs o1) ∧ chk o1 = 0 ∧ IsSet s (FoldP o1) ∧ ((s.length ≤ 400 ∧ x2 = 0 ∧ v2 = v1 ∧ Rds w2 w2.heap.size 2 A2 n2 (rngs s)) ∨ (400 < s.length ∧ x2 = 2))) := by
  have hf := all_folded d h94 h38 0
  rcases t1 with ⟨h0, rfl, rfl, rfl, rfl, rfl⟩ | ⟨h0, t1⟩
  · rcases t2 with ⟨k0, rfl, rfl, rfl, rfl, rfl⟩ | ⟨k0, t2⟩
    · exact ⟨fun _ => .inl rfl, fun h => absurd h h0⟩
    · exact absurd k0 h0
  · rcases t2 with ⟨k0, _⟩ | ⟨k0, t2⟩
    · exact absurd h0 k0
    · cases e1 : allP d l false 0 with
      | error q =>
        cases e2 : allP d l true 0 with
        | error q' =>
          rw [e1, e2] at hf
          simp only at hf
          subst hf
          rw [e1] at t1
          rw [e2] at t2
          obtain ⟨-, -, -, rfl, -⟩ := t1
          obtain ⟨-, -, -, rfl, -⟩ := t2
          exact ⟨fun _ => .inl rfl, fun h => absurd h (nz_all false (by omega) q e1)⟩
        | ok r' => rw [e1, e2] at hf; exact hf.elim
      | ok r =>
        cases e2 : allP d l true 0 with
        | error q' => rw [e1, e2] at hf; exact hf.elim
        | ok r' =>
          rw [e1, e2] at hf
          simp only at hf
          obtain ⟨hv, _, hq⟩ := hf
          rw [e1] at t1
          rw [e2] at t2
          obtain ⟨o1, s1, -, ⟨l1, rfl, rfl, rfl, r1⟩ | ⟨l1, rfl, rfl, rfl, rfl, rfl⟩⟩ := t1
          · refine ⟨fun h => absurd rfl h, fun _ => ?_⟩
            obtain ⟨o2, s2, -, t2⟩ := t2
            have e : FoldP o1 = r'.1 := by rw [foldP_eq s1]; funext q; exact propext (hq q).symm
            refine ⟨o1, o2, r1, (chk_ok o1).2 ⟨l1, s1.1⟩, by rw [e]; exact s2, ?_⟩
            rcases t2 with ⟨l2, rfl, rfl, rfl, r2⟩ | ⟨l2, rfl, rfl, rfl, rfl, rfl⟩
            · exact .inl ⟨l2, rfl, hv.symm, r2⟩
            · exact .inr ⟨l2, rfl⟩
          · exact ⟨fun _ => .inr rfl, fun h => by omega⟩
theorem hasI_no {l : List Int} {x : Int} (h : hasI l x = false) : ∀ y ∈ l, y ≠ x := by
  intro y hy e
  subst e
  rw [(hasI_iff l y).2 hy] at h
  cases h
set_option maxRecDepth 100000 in
set_option maxHeartbeats 8000000 in
theorem lawBracketFolds (d : Int) (l : List Int) (A : Option Addr) (n c : Nat) (w : World) (hnc : n ≤ c) (hc : c ≤ maxLen) (ha : Rds w w.heap.size 1 A n (ints l)) :
    Calls Tryz.prog 4 #[.int .i64 d, .slice A n c] w fun e w' => e = .returned (.bool true) ∧ Below w.heap.size w w' := by
  have HA := Lib.hid ha
  have hn : n ≤ maxLen := Nat.le_trans hnc hc
  clear ha
  have CH := Lib.hid (fun (x : Int) (W : World) (h : Below w.heap.size w W) => hasInt64 l x A n c W hn ((HA.out.below h (Nat.le_refl _)).more h.size))
  by_cases hx : hasI l 94 = true ∨ hasI l 38 = true
  · cases h94 : hasI l 94 with
    | true =>
      have C94 := Lib.hid (fun (W : World) (h : Below w.heap.size w W) => show Calls Tryz.prog 18 #[.slice A n c, .int .i64 94] W fun e w' => e = .returned (.bool true) ∧ W = w' by rw [← h94]; exact CH.out 94 W h)
      clear hx h94 CH
      go_enter Tryz.func4, Tryz.ntmps4
      go_upto_region 2 with (first
        | (go_at_call 15; (with_reducible refine (begun15 _).mono ?_); rintro e w1 ⟨rfl, hb1⟩)
        | (go_at_call 17; (with_reducible refine (setBegun29 _).mono ?_); rintro e w2 ⟨rfl, hb2⟩; have HB2 := Lib.hid (hb1.trans (hb2.mono hb1.size)); clear hb1 hb2)
        | (go_at_call 18; (with_reducible refine (C94.out _ HB2.out).mono ?_); rintro e w3 ⟨rfl, rfl⟩))
      go_wp2_with (first
        | (go_at_call 15; (with_reducible refine (begun15 _).mono ?_); rintro e w4 ⟨rfl, hb4⟩; have HB4 := Lib.hid (HB2.out.trans (hb4.mono HB2.out.size)); clear hb4)
        | (go_at_call 17; (with_reducible refine (setBegun29 _).mono ?_); rintro e w5 ⟨rfl, hb5⟩; have HB5 := Lib.hid (HB4.out.trans (hb5.mono HB4.out.size)); clear hb5))
      go_ret
      exact ⟨rfl, HB5.out⟩
    | false =>
      have h38 : hasI l 38 = true := hx.elim (fun e => by rw [h94] at e; cases e) id
      have C94 := Lib.hid (fun (W : World) (h : Below w.heap.size w W) => show Calls Tryz.prog 18 #[.slice A n c, .int .i64 94] W fun e w' => e = .returned (.bool false) ∧ W = w' by rw [← h94]; exact CH.out 94 W h)
      have C38 := Lib.hid (fun (W : World) (h : Below w.heap.size w W) => show Calls Tryz.prog 18 #[.slice A n c, .int .i64 38] W fun e w' => e = .returned (.bool true) ∧ W = w' by rw [← h38]; exact CH.out 38 W h)
      clear hx h94 h38 CH
      go_enter Tryz.func4, Tryz.ntmps4
      go_upto_region 2 with (first
        | (go_at_call 15; (with_reducible refine (begun15 _).mono ?_); rintro e w1 ⟨rfl, hb1⟩)
        | (go_at_call 17; (with_reducible refine (setBegun29 _).mono ?_); rintro e w2 ⟨rfl, hb2⟩; have HB2 := Lib.hid (hb1.trans (hb2.mono hb1.size)); clear hb1 hb2)
        | (go_at_call 18; (with_reducible refine (C94.out _ HB2.out).mono ?_); rintro e w3 ⟨rfl, rfl⟩)
        | (go_at_call 18; (with_reducible refine (C38.out _ HB2.out).mono ?_); rintro e w3 ⟨rfl, rfl⟩))
      go_wp2_with (first
        | (go_at_call 15; (with_reducible refine (begun15 _).mono ?_); rintro e w4 ⟨rfl, hb4⟩; have HB4 := Lib.hid (HB2.out.trans (hb4.mono HB2.out.size)); clear hb4)
        | (go_at_call 17; (with_reducible refine (setBegun29 _).mono ?_); rintro e w5 ⟨rfl, hb5⟩; have HB5 := Lib.hid (HB4.out.trans (hb5.mono HB4.out.size)); clear hb5))
      go_ret
      exact ⟨rfl, HB5.out⟩
  · have h94 : hasI l 94 = false := by cases h : hasI l 94; rfl; exact absurd (.inl h) hx
    have h38 : hasI l 38 = false := by cases h : hasI l 38; rfl; exact absurd (.inr h) hx
    have C94 := Lib.hid (fun (W : World) (h : Below w.heap.size w W) => show Calls Tryz.prog 18 #[.slice A n c, .int .i64 94] W fun e w' => e = .returned (.bool false) ∧ W = w' by rw [← h94]; exact CH.out 94 W h)
    have C38 := Lib.hid (fun (W : World) (h : Below w.heap.size w W) => show Calls Tryz.prog 18 #[.slice A n c, .int .i64 38] W fun e w' => e = .returned (.bool false) ∧ W = w' by rw [← h38]; exact CH.out 38 W h)
    have H94 := Lib.hid (hasI_no h94)
    have H38 := Lib.hid (hasI_no h38)
    clear hx h94 h38 CH
    go_enter Tryz.func4, Tryz.ntmps4
    go_upto_region 3 with (first
      | (go_at_call 15; (with_reducible refine (begun15 _).mono ?_); rintro e w1 ⟨rfl, hb1⟩)
      | (go_at_call 17; (with_reducible refine (setBegun29 _).mono ?_); rintro e w2 ⟨rfl, hb2⟩; have HB2 := Lib.hid (hb1.trans (hb2.mono hb1.size)); clear hb1 hb2)
      | (go_at_call 18; (with_reducible refine (C94.out _ HB2.out).mono ?_); rintro e w3 ⟨rfl, rfl⟩)
      | (go_at_call 18; (with_reducible refine (C38.out _ HB2.out).mono ?_); rintro e w3 ⟨rfl, rfl⟩))
    have CP1 := Lib.hid (parseP d 0 false l A n c w2 hn hnc ((HA.out.below HB2.out (Nat.le_refl _)).more HB2.out.size))
    go_upto_region 4 with (go_at_call 12; (with_reducible refine CP1.out.mono ?_); rintro e w4 ⟨A2, n2, v1, x1, y1, rfl, ht, hb⟩; have HT1 := Lib.hid ht.out; have HB4 := Lib.hid (HB2.out.trans (hb.mono HB2.out.size)); clear ht hb)
    obtain ⟨X, hX⟩ : ∃ X, X = w4.alloc (.cells #[.int .i64 x1, .int .i64 y1] 26) := ⟨_, rfl⟩
    have hbx : Below w4.heap.size w4 X := by rw [hX]; exact (Below.refl _ _).alloc (Nat.le_refl _) _
    have HBX := Lib.hid (HB4.out.trans (hbx.mono HB4.out.size))
    have HWX := Lib.hid hbx
    have HZX := Lib.hid (show X.heap[w4.heap.size]? = some (.cells #[.int .i64 x1, .int .i64 y1] 26 (0, 0)) by rw [hX]; exact heap_alloc_new w4 _)
    rw [← hX]
    clear hX hbx CP1 C94 C38
    have CP2 := Lib.hid (parseP d 0 true l A n c X hn hnc ((HA.out.below HBX.out (Nat.le_refl _)).more HBX.out.size))
    go_upto_region 5 with (go_at_call 12; (with_reducible refine CP2.out.mono ?_); rintro e w7 ⟨A4, n4, v2, x2, y2, rfl, ht, hb⟩; have HT2 := Lib.hid ht.out; have HB7 := Lib.hid hb; clear ht hb)
    have PL := Lib.hid (folds_plain H94.out H38.out HT1.out HT2.out)
    obtain ⟨⟨hn2, -, -⟩, -⟩ := HT1.out.row
    obtain ⟨⟨hn4, -, -⟩, -⟩ := HT2.out.row
    obtain ⟨Y, hY⟩ : ∃ Y, Y = w7.alloc (.cells #[.int .i64 x2, .int .i64 y2] 26) := ⟨_, rfl⟩
    have hby : Below w7.heap.size w7 Y := by rw [hY]; exact (Below.refl _ _).alloc (Nat.le_refl _) _
    have HWY := Lib.hid hby
    have hXY : Below X.heap.size X Y := HB7.out.trans (hby.mono HB7.out.size)
    have HXY := Lib.hid hXY
    have HBY := Lib.hid (HBX.out.trans (hXY.mono HBX.out.size))
    have HZ1 := Lib.hid (row_next HZX.out hXY)
    have HZ2 := Lib.hid (show Y.heap[w7.heap.size]? = some (.cells #[.int .i64 x2, .int .i64 y2] 26 (0, 0)) by rw [hY]; exact heap_alloc_new w7 _)
    rw [← hY]
    have f1 := cell_of_row _ _ 0 _ _ _ HZ1.out
    have f2 := cell_of_row _ _ 0 _ _ _ HZ2.out
    clear hY hby hXY HT1 HT2 CP2 HA HZX
    by_cases hx1 : x1 = 0
    · have e1 : (x1 != 0) = false := by simpa using hx1
      obtain ⟨o1, s, hr1, hc1, hs, hor⟩ := PL.out.2 hx1
      have HC1 := Lib.hid hc1
      have HS := Lib.hid hs
      have hr1Y := (((hr1.below HWX.out (Nat.le_refl _)).more (B' := X.heap.size) HWX.out.size).below HXY.out (Nat.le_refl _)).more (B' := Y.heap.size) HXY.out.size
      have CF := Lib.hid (foldS o1 A2 n2 n2 Y (Nat.le_refl _) (by unfold maxLen; omega) hr1Y)
      clear PL hx1 hr1 hr1Y hc1 hs
      go_upto_region 8 with (go_at_call 19; (with_reducible refine CF.out.mono ?_); rintro e w8 ⟨o3, A8, n8, c8, x3, rfl, hsf, hnc8, hm8, hl8, hr8, hb8⟩; have HSF := Lib.hid hsf.out; have HR8 := Lib.hid hr8.out; have HL8 := Lib.hid hl8.out; have HB8 := Lib.hid hb8; have HZ8 := Lib.hid (row_next HZ2.out hb8); clear hsf hr8 hl8 hb8)
      obtain ⟨s', hs', hx3⟩ := HSF.out.fits HC1.out
      have hss : s' = s := IsSet.eq hs' HS.out fun _ => Iff.rfl
      subst hss
      clear f1 f2
      have f2 := cell_of_row _ _ 0 _ _ _ HZ8.out
      rcases hor with ⟨hl, hx2, hv, hr2⟩ | ⟨hl, hx2⟩
      · have h30 : x3 = 0 := by rw [hx3, if_neg (by omega)]
        have ho3 : o3 = s' := IsSet.eq (HSF.out.ok h30).1 hs' fun _ => Iff.rfl
        have hr2Y := (hr2.below HWY.out (Nat.le_refl _)).more (B' := Y.heap.size) HWY.out.size
        have HR2 := Lib.hid ((hr2Y.below HB8.out (Nat.le_refl _)).more (B' := w8.heap.size) HB8.out.size)
        have hn8 : n8 ≤ maxLen := Nat.le_trans hnc8 hm8
        have CS := Lib.hid (fun X1 X2 h1 h2 => sameSet_any o3 s' A8 A4 n8 n4 c8 n4 w8 X1 X2 hn8 (by unfold maxLen; omega) h1 h2)
        have e3 : (x3 != 0) = false := by simpa using h30
        have e2 : (x2 != 0) = false := by simpa using hx2
        have e4 : (v1 == v2) = true := by simpa using hv.symm
        have HSS := Lib.hid (show sameS o3 s' = true by rw [ho3]; simp [sameS])
        clear h30 hx2 hv hr2 hr2Y hx3 hs' ho3 CF
        go_wp2_with (go_at_call 16; (with_reducible refine (CS.out _ _ HR8.out HR2.out).mono ?_); rintro e w9 ⟨rfl, q9, rfl⟩)
        go_ret
        exact ⟨ret_bool HSS.out, below_drewN (HBY.out.trans (HB8.out.mono HBY.out.size)) _⟩
      · have h32 : x3 = 2 := by rw [hx3, if_pos hl]
        clear hx3 hs' CF
        subst h32 hx2
        go_wp2_with fail
        go_ret
        exact ⟨rfl, HBY.out.trans (HB8.out.mono HBY.out.size)⟩
    · have e1 : (x1 != 0) = true := by simpa using hx1
      have hor := PL.out.1 hx1
      clear PL hx1
      by_cases h21 : x2 = x1
      · have e2 : (x2 == x1) = true := by simpa using h21
        clear h21 hor
        go_wp2_with fail
        go_ret
        exact ⟨rfl, HBY.out⟩
      · have e2 : (x2 == x1) = false := by simpa using h21
        have e3 : (x1 == 2) = true := by simpa using hor.resolve_left h21
        clear h21 hor
        go_wp2_with fail
        go_ret
        exact ⟨rfl, HBY.out⟩
end Go.Proofs.YtbiahhojnjchnaaGreat
