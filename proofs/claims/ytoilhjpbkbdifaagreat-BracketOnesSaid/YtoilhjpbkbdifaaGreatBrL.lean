/- BracketOnes: walked. -/
import Derived.Test.YtoilhjpbkbdifaaGreatBrK
set_option linter.unusedVariables false
set_option linter.unusedSimpArgs false
namespace Go.Proofs.YtoilhjpbkbdifaaGreat
open Go.RowKit
def sing (qs : List Int) : List (Int × Int) := qs.map fun q => (q, q)
theorem sing_mem (qs : List Int) (p : Int) : mem (sing qs) p ↔ p ∈ qs := by
  unfold mem sing
  constructor
  · rintro ⟨r, hr, h1, h2⟩
    obtain ⟨q, hq, rfl⟩ := List.mem_map.1 hr
    simp only at h1 h2
    obtain rfl : p = q := by omega
    exact hq
  · intro h
    exact ⟨(p, p), List.mem_map.2 ⟨p, h, rfl⟩, Int.le_refl _, Int.le_refl _⟩
theorem sing_ok {qs : List Int} (h : ∀ q ∈ qs, Aln q) : ∀ r ∈ sing qs, okR r = true := by
  intro r hr
  obtain ⟨q, hq, rfl⟩ := List.mem_map.1 hr
  have := h q hq
  unfold Aln at this
  rw [okR_iff]; simp only; omega
theorem spans_of {qs : List Int} (h : ∀ q ∈ qs, Aln q) : ∀ (j k : Nat), k + j = qs.length → Spans (qs ++ [93]) k (sing (qs.drop k)) qs.length := by
  intro j
  induction j with
  | zero =>
    intro k hk
    obtain rfl : k = qs.length := by omega
    rw [List.drop_length]
    refine .done ?_
    rw [ptAt_in _ (by simp : qs.length < (qs ++ [93]).length)]; simp
  | succ j ih =>
    intro k hk
    have hkl : k < qs.length := by omega
    rw [List.drop_eq_getElem_cons hkl]
    have hp : ptAt (qs ++ [93]) k = qs[k] := by rw [ptAt_in _ (by simp; omega : k < (qs ++ [93]).length), List.getElem_append_left hkl]
    refine .one qs[k] hp (h _ (List.getElem_mem hkl)) ?_ (by have := ih (k + 1) (by omega); simpa [sing] using this)
    rw [show ((k : Int) + 1) = ((k + 1 : Nat) : Int) by omega, ptAt_in _ (by simp; omega : k + 1 < (qs ++ [93]).length)]
    by_cases h1 : k + 1 < qs.length
    · rw [List.getElem_append_left h1]
      have := h _ (List.getElem_mem h1)
      unfold Aln at this; omega
    · rw [List.getElem_append_right (by omega)]; simp
theorem spans_all {qs : List Int} (h : ∀ q ∈ qs, Aln q) : Spans (qs ++ [93]) 0 (sing qs) qs.length := by
  have := spans_of h qs.length 0 (by omega)
  rw [List.drop_zero] at this
  exact this
theorem sing_ne {qs : List Int} (h : 0 < qs.length) : sing qs ≠ [] := by
  intro e
  have := congrArg List.length e
  simp [sing] at this
  rw [this] at h; simp at h
theorem sing_len (qs : List Int) : (sing qs).length = qs.length := by simp [sing]
theorem pts_okp {qs : List Int} (h : ∀ q ∈ qs, Aln q) : (qs ++ [93]).all okPt = true := by
  rw [List.all_eq_true]
  intro q hq
  rcases List.mem_append.1 hq with hq | hq
  · have := h q hq
    unfold Aln at this; unfold okPt; simp; omega
  · obtain rfl := List.mem_singleton.1 hq
    decide
set_option maxHeartbeats 8000000 in
set_option maxRecDepth 100000 in
theorem lawBracketOnes (HSORT : Hid SortC) (d : Int) (l : List Int) (A : Option Addr) (n c : Nat) (p : Int) (w : World) (hnc : n ≤ c) (hc : c ≤ maxLen) (hbd : ∀ x ∈ l, -9223372036854775808 ≤ x ∧ x ≤ 9223372036854775807) (ha : Rds w w.heap.size 1 A n (ints l)) :
    Calls Tryz.prog 3 #[.int .i64 d, .slice A n c, .int .i64 p] w fun e w' => e = .returned (.bool true) ∧ Below w.heap.size w w' := by
  have HA := Lib.hid ha
  have HLN := Lib.hid ha.ints_len
  have HBD := Lib.hid hbd
  have CB := Lib.hid (begun4 HSORT w)
  have hnm : n ≤ maxLen := Nat.le_trans hnc hc
  unfold maxLen at hnm hc
  clear ha hbd
  go_enter Tryz.func3, Tryz.ntmps3
  go_upto_region 6 with (go_at_call 4; (with_reducible refine CB.out.mono ?_); rintro e w1 ⟨rfl, hb⟩; have HB1 := Lib.hid hb; clear hb)
  go_loopw [7, 8, 9] (fun v7 v8 v9 wr => ∃ qs : List Int, qs.length ≤ n ∧ qs.length ≤ 60 ∧ v9 = .int .i64 (qs.length : Nat) ∧ Hid (∀ q ∈ qs, Aln q) ∧ Hid (wr.ownsRow w.heap.size 3 1 v7 qs.length (ints qs)) ∧ Hid (wr.ownsRow w.heap.size 27 2 v8 qs.length (rngs (sing qs))) ∧ Hid (Below w.heap.size w wr)) (fun _ _ i _ => 60 - (intOf i).toNat)
  case atStart => exact ⟨[], Nat.zero_le _, Nat.zero_le _, rfl, Lib.hid (fun q hq => by cases hq), Lib.hid (World.ownsRow_nil _ _ _ _), Lib.hid (World.ownsRow_nil _ _ _ _), HB1⟩
  case round =>
    obtain ⟨qs, hqn, hq60, rfl, HQS, HI, HW, HB⟩ := hrel
    by_cases hlt : qs.length < n ∧ qs.length < 60
    · obtain ⟨hl1, hl2⟩ := hlt
      obtain ⟨b1, off1, hl, hA, hb1, hc1⟩ := (HA.out.below HB.out (Nat.le_refl _)).int_at hl1
      have hx := HBD.out _ (List.getElem_mem hl)
      obtain ⟨x, hxx⟩ : ∃ x, x = l[qs.length] := ⟨_, rfl⟩
      rw [← hxx] at hc1 hx
      obtain ⟨hx0, hx1⟩ := hx
      have C5 := Lib.hid (fun w => choose5 x w hx0 hx1)
      clear hxx hx0 hx1
      subst hA
      have i1 : (0 : Int) ≤ (qs.length : Int) := by omega
      have i2 : (qs.length : Int) < (n : Int) := by omega
      have i3 : (qs.length : Int) < 60 := by omega
      go_upto_region 10 with (go_at_call 5; (with_reducible refine (C5.out _).mono ?_); rintro e w2 ⟨⟨r, hr0, hr1, rfl⟩, rfl⟩)
      by_cases h36 : 36 ≤ r
      · have e1 : (decide ((36 : Int) ≤ r)) = true := decide_eq_true h36
        have W1 : IntKind.i64.wrap (97 + r) = 97 + r := IntWalk.i64_in _ (by omega)
        have W2 : IntKind.i64.wrap (97 + r - 36) = 97 + r - 36 := IntWalk.i64_in _ (by omega)
        go_upto_region 14 with (fail)
        obtain ⟨q, hq⟩ : ∃ q, q = 97 + r - 36 := ⟨_, rfl⟩
        rw [← hq]
        have HQ := Lib.hid (show Aln q by unfold Aln; omega)
        clear hq
        have RQ := Lib.hid (show Rds (wr.alloc (.cells #[.int .i64 q] 3)) (wr.heap.size + 1) 1 (some ⟨wr.heap.size, 0, none⟩) 1 (ints [q]) by have := Rds.new wr 1 1 #[.int .i64 q] 3 (ints [q]) rfl rfl; simpa using this)
        go_upto_region 15 with (at_builtin; refine app_ints (.tmp 44) (.tmp 46) (base := w.heap.size) (xs := qs) (ys := [q]) (n := qs.length) (m := 1) (HI.out.alloc _) RQ.out (by omega) (by have := HB.out.size; simp; omega) rfl rfl rfl rfl ?_; intro v3 w3 hown3 hg3 hat3)
        have hb3 : Below w.heap.size wr w3 := ((Below.refl _ _).alloc HB.out.size _).grown hg3 (by have := HB.out.size; simp; omega) (fun g hg => (HI.out.lt g hg).1)
        have HI3 := Lib.hid hown3
        have HW3 := Lib.hid (own_kept (w := wr.alloc (.cells #[.int .i64 q] 3)) (HW.out.alloc _) hg3 (fun g hg => own_ne_type HI.out HW.out (by decide) g hg))
        have HB3 := Lib.hid (HB.out.trans hb3)
        have RR := Lib.hid (show Rds (w3.alloc (.cells #[.int .i64 q, .int .i64 q] 27)) (w3.heap.size + 1) 2 (some ⟨w3.heap.size, 0, none⟩) 1 (rngs [(q, q)]) by have := Rds.new w3 2 1 #[.int .i64 q, .int .i64 q] 27 (rngs [(q, q)]) rfl rfl; simpa using this)
        clear hown3 hg3 hb3 hat3 RQ
        go_wp2_with (at_builtin; refine app_rngs (.tmp 48) (.tmp 52) (base := w.heap.size) (xs := sing qs) (ys := [(q, q)]) (n := qs.length) (m := 1) (HW3.out.alloc _) RR.out (by omega) (by have := HB3.out.size; simp; omega) rfl rfl rfl rfl ?_; intro v4 w4 hown4 hg4 hat4)
        have hb4 : Below w.heap.size w3 w4 := ((Below.refl _ _).alloc HB3.out.size _).grown hg4 (by have := HB3.out.size; simp; omega) (fun g hg => (HW3.out.lt g hg).1)
        have HI4 := Lib.hid (own_kept (w := w3.alloc (.cells #[.int .i64 q, .int .i64 q] 27)) (HI3.out.alloc _) hg4 (fun g hg => own_ne_type HW3.out HI3.out (by decide) g hg))
        go_roundw
        case rel => exact ⟨qs ++ [q], by simp; omega, by simp; omega, by simp, Lib.hid (by intro y hy; rcases List.mem_append.1 hy with hy | hy; exact HQS.out y hy; obtain rfl := List.mem_singleton.1 hy; exact HQ.out), Lib.hid (by simpa using HI4.out), Lib.hid (by simpa [sing] using hown4), Lib.hid (HB3.out.trans hb4)⟩
        case measure => simp [intOf]; omega
      · have e1 : (decide ((36 : Int) ≤ r)) = false := decide_eq_false h36
        by_cases h10 : 10 ≤ r
        · have e2 : (decide ((10 : Int) ≤ r)) = true := decide_eq_true h10
          have W1 : IntKind.i64.wrap (65 + r) = 65 + r := IntWalk.i64_in _ (by omega)
          have W2 : IntKind.i64.wrap (65 + r - 10) = 65 + r - 10 := IntWalk.i64_in _ (by omega)
          go_upto_region 14 with (fail)
          obtain ⟨q, hq⟩ : ∃ q, q = 65 + r - 10 := ⟨_, rfl⟩
          rw [← hq]
          have HQ := Lib.hid (show Aln q by unfold Aln; omega)
          clear hq
          have RQ := Lib.hid (show Rds (wr.alloc (.cells #[.int .i64 q] 3)) (wr.heap.size + 1) 1 (some ⟨wr.heap.size, 0, none⟩) 1 (ints [q]) by have := Rds.new wr 1 1 #[.int .i64 q] 3 (ints [q]) rfl rfl; simpa using this)
          go_upto_region 15 with (at_builtin; refine app_ints (.tmp 44) (.tmp 46) (base := w.heap.size) (xs := qs) (ys := [q]) (n := qs.length) (m := 1) (HI.out.alloc _) RQ.out (by omega) (by have := HB.out.size; simp; omega) rfl rfl rfl rfl ?_; intro v3 w3 hown3 hg3 hat3)
          have hb3 : Below w.heap.size wr w3 := ((Below.refl _ _).alloc HB.out.size _).grown hg3 (by have := HB.out.size; simp; omega) (fun g hg => (HI.out.lt g hg).1)
          have HI3 := Lib.hid hown3
          have HW3 := Lib.hid (own_kept (w := wr.alloc (.cells #[.int .i64 q] 3)) (HW.out.alloc _) hg3 (fun g hg => own_ne_type HI.out HW.out (by decide) g hg))
          have HB3 := Lib.hid (HB.out.trans hb3)
          have RR := Lib.hid (show Rds (w3.alloc (.cells #[.int .i64 q, .int .i64 q] 27)) (w3.heap.size + 1) 2 (some ⟨w3.heap.size, 0, none⟩) 1 (rngs [(q, q)]) by have := Rds.new w3 2 1 #[.int .i64 q, .int .i64 q] 27 (rngs [(q, q)]) rfl rfl; simpa using this)
          clear hown3 hg3 hb3 hat3 RQ
          go_wp2_with (at_builtin; refine app_rngs (.tmp 48) (.tmp 52) (base := w.heap.size) (xs := sing qs) (ys := [(q, q)]) (n := qs.length) (m := 1) (HW3.out.alloc _) RR.out (by omega) (by have := HB3.out.size; simp; omega) rfl rfl rfl rfl ?_; intro v4 w4 hown4 hg4 hat4)
          have hb4 : Below w.heap.size w3 w4 := ((Below.refl _ _).alloc HB3.out.size _).grown hg4 (by have := HB3.out.size; simp; omega) (fun g hg => (HW3.out.lt g hg).1)
          have HI4 := Lib.hid (own_kept (w := w3.alloc (.cells #[.int .i64 q, .int .i64 q] 27)) (HI3.out.alloc _) hg4 (fun g hg => own_ne_type HW3.out HI3.out (by decide) g hg))
          go_roundw
          case rel => exact ⟨qs ++ [q], by simp; omega, by simp; omega, by simp, Lib.hid (by intro y hy; rcases List.mem_append.1 hy with hy | hy; exact HQS.out y hy; obtain rfl := List.mem_singleton.1 hy; exact HQ.out), Lib.hid (by simpa using HI4.out), Lib.hid (by simpa [sing] using hown4), Lib.hid (HB3.out.trans hb4)⟩
          case measure => simp [intOf]; omega
        · have e2 : (decide ((10 : Int) ≤ r)) = false := decide_eq_false h10
          go_upto_region 14 with (fail)
          obtain ⟨q, hq⟩ : ∃ q, q = 48 + r := ⟨_, rfl⟩
          rw [← hq]
          have HQ := Lib.hid (show Aln q by unfold Aln; omega)
          clear hq
          have RQ := Lib.hid (show Rds (wr.alloc (.cells #[.int .i64 q] 3)) (wr.heap.size + 1) 1 (some ⟨wr.heap.size, 0, none⟩) 1 (ints [q]) by have := Rds.new wr 1 1 #[.int .i64 q] 3 (ints [q]) rfl rfl; simpa using this)
          go_upto_region 15 with (at_builtin; refine app_ints (.tmp 44) (.tmp 46) (base := w.heap.size) (xs := qs) (ys := [q]) (n := qs.length) (m := 1) (HI.out.alloc _) RQ.out (by omega) (by have := HB.out.size; simp; omega) rfl rfl rfl rfl ?_; intro v3 w3 hown3 hg3 hat3)
          have hb3 : Below w.heap.size wr w3 := ((Below.refl _ _).alloc HB.out.size _).grown hg3 (by have := HB.out.size; simp; omega) (fun g hg => (HI.out.lt g hg).1)
          have HI3 := Lib.hid hown3
          have HW3 := Lib.hid (own_kept (w := wr.alloc (.cells #[.int .i64 q] 3)) (HW.out.alloc _) hg3 (fun g hg => own_ne_type HI.out HW.out (by decide) g hg))
          have HB3 := Lib.hid (HB.out.trans hb3)
          have RR := Lib.hid (show Rds (w3.alloc (.cells #[.int .i64 q, .int .i64 q] 27)) (w3.heap.size + 1) 2 (some ⟨w3.heap.size, 0, none⟩) 1 (rngs [(q, q)]) by have := Rds.new w3 2 1 #[.int .i64 q, .int .i64 q] 27 (rngs [(q, q)]) rfl rfl; simpa using this)
          clear hown3 hg3 hb3 hat3 RQ
          go_wp2_with (at_builtin; refine app_rngs (.tmp 48) (.tmp 52) (base := w.heap.size) (xs := sing qs) (ys := [(q, q)]) (n := qs.length) (m := 1) (HW3.out.alloc _) RR.out (by omega) (by have := HB3.out.size; simp; omega) rfl rfl rfl rfl ?_; intro v4 w4 hown4 hg4 hat4)
          have hb4 : Below w.heap.size w3 w4 := ((Below.refl _ _).alloc HB3.out.size _).grown hg4 (by have := HB3.out.size; simp; omega) (fun g hg => (HW3.out.lt g hg).1)
          have HI4 := Lib.hid (own_kept (w := w3.alloc (.cells #[.int .i64 q, .int .i64 q] 27)) (HI3.out.alloc _) hg4 (fun g hg => own_ne_type HW3.out HI3.out (by decide) g hg))
          go_roundw
          case rel => exact ⟨qs ++ [q], by simp; omega, by simp; omega, by simp, Lib.hid (by intro y hy; rcases List.mem_append.1 hy with hy | hy; exact HQS.out y hy; obtain rfl := List.mem_singleton.1 hy; exact HQ.out), Lib.hid (by simpa using HI4.out), Lib.hid (by simpa [sing] using hown4), Lib.hid (HB3.out.trans hb4)⟩
          case measure => simp [intOf]; omega
    · have hend : ¬ ((qs.length : Int) < (n : Int) ∧ (qs.length : Int) < 60) := fun h => hlt ⟨by omega, by omega⟩
      obtain ⟨A7, c7, hv7, hc7, hm7⟩ := own_slice HI.out
      subst hv7
      obtain ⟨A8, c8, hv8, hc8, hm8⟩ := own_slice HW.out
      subst hv8
      have hcut : (¬ (qs.length : Int) < (n : Int)) ∨ ((qs.length : Int) < (n : Int) ∧ ¬ (qs.length : Int) < 60) := by omega
      have HMP := Lib.hid (show (∀ out p, IsSet out (mem (sing qs)) → memB out p = hasI qs p) from fun out p h => by rw [Bool.eq_iff_iff, memB_iff, hasI_iff, h.2, sing_mem])
      clear hlt hend
      rcases hcut with hcut | ⟨hcut, hcut2⟩
      all_goals
        go_upto_region 16 with (fail)
        clear hcut
        by_cases hz : qs.length = 0
        · have hzb : ((qs.length : Int) == 0) = true := by simp [hz]
          clear hz
          go_wp2_with fail
          go_ret
          exact ⟨rfl, HB.out⟩
        · have hzb : ((qs.length : Int) == 0) = false := beq_eq_false_iff_ne.2 (by omega)
          have hk0 : 0 < qs.length := by omega
          obtain ⟨g, cap, hv, hg1, hg2⟩ := World.ownsRow.form HI.out hk0
          injection hv with e1 e2 e3
          subst e1 e3
          clear e2 hz
          have R93 := Lib.hid (show Rds (wr.alloc (.cells #[.int .i64 93] 3)) (wr.heap.size + 1) 1 (some ⟨wr.heap.size, 0, none⟩) 1 (ints [93]) by have := Rds.new wr 1 1 #[.int .i64 93] 3 (ints [93]) rfl rfl; simpa using this)
          have hszB := HB.out.size
          by_cases hd : 1 ≤ d ∧ d ≤ 3
          · obtain ⟨hd1, hd3⟩ := hd
            have t1 : (decide (d < 1)) = false := decide_eq_false (by omega)
            have t2 : (decide (3 < d)) = false := decide_eq_false (by omega)
            go_upto_region 19 with (first
              | (at_builtin; refine app_keep (.tmp 59) (.tmp 60) (base := w.heap.size) (xs := qs) (ys := [93]) (n := qs.length) (m := 1) (HI.out.alloc _) R93.out (by omega) hk0 (by omega) (by simp; omega) rfl rfl rfl rfl ?_; intro A' c' w5 hr5 hc5 hm5 hold hb5 hkp; have HR5 := Lib.hid hr5; have HC5 := Lib.hid hc5; have HO5 := Lib.hid hold; have HB5 := Lib.hid ((HB.out.alloc hszB _).trans hb5); have HW5 := Lib.hid (hkp _ _ _ _ _ _ (HW.out.alloc _) (by decide)); have CP := Lib.hid (parse_good HSORT (ee := qs.length) (D := sing qs) hd1 hd3 (pts_okp HQS.out) (spans_all HQS.out) (sing_ne hk0) (by rw [sing_len]; omega) (by omega) HC5.out HR5.out); clear hr5 hc5 hm5 hold hb5 hkp)
              | (go_at_call 6; (with_reducible refine CP.out.mono ?_); rintro e w6 ⟨out, A6, n6, hset, hln, rfl, hr6, hb6⟩; have HSET := Lib.hid hset; have HL6 := Lib.hid hln; have HR6 := Lib.hid hr6; have HB6 := Lib.hid (HB5.out.trans (hb6.mono HB5.out.size)); have HO6 := Lib.hid ((HO5.out.below hb6 (Nat.le_refl _)).more hb6.size); have HW6 := Lib.hid (own_below HW5.out hb6 (Nat.le_refl _)); clear hset hln hr6 hb6))
            obtain ⟨X, hX⟩ : ∃ X, X = w6.alloc (.cells #[.int .i64 0, .int .i64 0] 30) := ⟨_, rfl⟩
            have hbx : Below w6.heap.size w6 X := by rw [hX]; exact (Below.refl _ _).alloc (Nat.le_refl _) _
            have HBX := Lib.hid (HB6.out.trans (hbx.mono HB6.out.size))
            have HRX := Lib.hid ((HR6.out.below hbx (Nat.le_refl _)).more (B' := X.heap.size) hbx.size)
            have HOX := Lib.hid ((HO6.out.below hbx (Nat.le_refl _)).more (B' := X.heap.size) hbx.size)
            have HWX := Lib.hid (own_below HW6.out hbx (Nat.le_refl _))
            have hz := (show X.heap[w6.heap.size]? = some (.cells #[.int .i64 0, .int .i64 0] 30 (0, 0)) by rw [hX]; exact heap_alloc_new w6 _)
            have f0 := cell_of_row _ _ 0 _ _ _ hz
            rw [← hX]
            have hn6 : n6 = out.length := HRX.out.rngs_len.symm
            have HN6 := Lib.hid (show n6 ≤ maxLen by rw [hn6]; have := HL6.out; rw [sing_len] at this; unfold maxLen; omega)
            have CM := Lib.hid (makeOf_any (sing qs) A8 qs.length c8 X (by omega) hm8 (sing_ok HQS.out) (Rds.of_own HWX.out))
            have W1 : IntKind.i64.wrap ((qs.length : Int) + 1) = (qs.length : Int) + 1 := IntWalk.i64_in _ (by omega)
            clear hX hbx HR6 HO6 HW6 HB6 hz hn6
            go_upto_region 21 with (fail)
            go_wp2_with (first
              | (go_at_call 8; (with_reducible refine CM.out.mono ?_); rintro e w7 ⟨om, hsm, hlm, AM, nM, cM, rfl, hown, hb7⟩; have HEQ := Lib.hid (show sameS out om = true by simp [sameS, IsSet.eq HSET.out hsm fun _ => Iff.rfl]); have hnM := own_rngs_len hown; have HNM := Lib.hid (show nM ≤ maxLen by rw [hnM]; unfold maxLen; omega); have HRM := Lib.hid (Rds.of_own hown); have HR7 := Lib.hid (HRX.out.below hb7 (Nat.le_refl _)); have HO7 := Lib.hid ((HOX.out.below hb7 (Nat.le_refl _)).more hb7.size); have HB7 := Lib.hid (HBX.out.trans (hb7.mono HBX.out.size)); have CS := Lib.hid (sameSet_any out om A6 AM n6 nM n6 cM w7 _ _ HN6.out HNM.out HR7.out HRM.out); rw [HEQ.out] at CS; clear hsm hlm hown hb7 hnM)
              | (go_at_call 7; (with_reducible refine CS.out.mono ?_); rintro e w8 ⟨rfl, q8, hq8⟩; have HR8 := Lib.hid (show Rds w8 X.heap.size 2 A6 n6 (rngs out) by rw [hq8]; exact HR7.out.drewN _); have HO8 := Lib.hid (show Rds w8 w8.heap.size 1 (some ⟨g, 0, none⟩) qs.length (ints qs) by rw [hq8]; exact HO7.out.drewN _); have HB8 := Lib.hid (show Below w.heap.size w w8 by rw [hq8]; exact below_drewN HB7.out _); have CW := Lib.hid (within_any out p A6 n6 n6 w8 X.heap.size HN6.out HR8.out); rw [HMP.out out p HSET.out] at CW; clear hq8)
              | (go_at_call 9; (with_reducible refine CW.out.mono ?_); rintro e w9 ⟨rfl, q9, hq9⟩; have HO9 := Lib.hid (show Rds w9 w9.heap.size 1 (some ⟨g, 0, none⟩) qs.length (ints qs) by rw [hq9]; exact HO8.out.drewN _); have HB9 := Lib.hid (show Below w.heap.size w w9 by rw [hq9]; exact below_drewN HB8.out _); have CH := Lib.hid (hasInt10 qs p (some ⟨g, 0, none⟩) qs.length c7 w9 (by unfold maxLen; omega) HO9.out); clear hq9)
              | (go_at_call 10; (with_reducible refine CH.out.mono ?_); rintro e w10 ⟨rfl, rfl⟩))
            go_ret
            exact ⟨ret_bool (by simp), HB9.out⟩
          · have hd' : d < 1 ∨ (¬ d < 1 ∧ 3 < d) := by omega
            have hd'' : d < 1 ∨ 3 < d := by omega
            clear hd
            rcases hd' with t1 | ⟨t1, t2⟩
            all_goals
              go_upto_region 20 with (first
                | (at_builtin; refine app_keep (.tmp 59) (.tmp 60) (base := w.heap.size) (xs := qs) (ys := [93]) (n := qs.length) (m := 1) (HI.out.alloc _) R93.out (by omega) hk0 (by omega) (by simp; omega) rfl rfl rfl rfl ?_; intro A' c' w5 hr5 hc5 hm5 hold hb5 hkp; have HB5 := Lib.hid ((HB.out.alloc hszB _).trans hb5); have CP := Lib.hid (parse_bad (c := c') hd'' (by omega) hr5); clear hr5 hc5 hm5 hold hb5 hkp)
                | (go_at_call 6; (with_reducible refine CP.out.mono ?_); rintro e w6 ⟨rfl, hb6⟩; have HB6 := Lib.hid (HB5.out.trans (hb6.mono HB5.out.size)); clear hb6))
              go_wp2_with fail
              go_ret
              exact ⟨rfl, HB6.out.alloc HB6.out.size _⟩
end Go.Proofs.YtoilhjpbkbdifaaGreat
