/- SplitRoads: walked. No condition. -/
import Derived.Test.YtihodjfnhkihiaaSplEE
import Derived.Test.YtihodjfnhkihiaaSplEB
import Derived.Test.YtihodjfnhkihiaaSplE
import Derived.Test.YtihodjfnhkihiaaSplZ
import Derived.BigQuiet
import Derived.Deep.QuietTactic
namespace Go.Proofs.Ytihodjfnhkihiaa
open Go.RowKit
set_option linter.unusedVariables false
set_option maxHeartbeats 1000000 in
theorem within13 (a : List (Int × Int)) (p : Int) (A : Option Addr) (n c : Nat) (w : World) (B : Nat) (hn : n ≤ maxLen) (ha : Rds w B 2 A n (rngs a)) :
    Calls Try.prog 13 #[.slice A n c, .int .i64 p] w fun e w' => e = .returned (.bool (memB a p)) ∧ ∃ m, w' = w.drewN m := by
  have HL := Lib.hid ha.rngs_len
  unfold maxLen at hn
  go_enter Try.func13, Try.ntmps13
  go_wp2_with fail
  go_loopw [5] (fun i wr => ∃ k : Nat, k ≤ n ∧ i = .int .i64 k ∧ memB (a.take k) p = false ∧ ∃ m, wr = w.drewN m) (fun i _ => n - (intOf i).toNat)
  case atStart => exact ⟨0, Nat.zero_le _, rfl, by simp [memB], 0, rfl⟩
  case round =>
    obtain ⟨k, hk, rfl, hall, m, rfl⟩ := hrel
    have HALL := Lib.hid hall
    clear hall
    by_cases hlt : k < n
    · obtain ⟨b1, off1, hl1, hA, hb1, hc1, hc2⟩ := ha.rng_at hlt
      subst hA
      have HT := Lib.hid (take_snoc' a k hl1)
      have HM := Lib.hid (memB_at (p := p) k hl1)
      obtain ⟨r, hr⟩ : ∃ r, r = a[k] := ⟨_, rfl⟩
      rw [← hr] at hc1 hc2 HT HM
      clear hr
      obtain ⟨x, y⟩ := r
      simp only at hc1 hc2
      have i1 : (0 : Int) ≤ (k : Int) := by omega
      have i2 : (k : Int) < (n : Int) := by omega
      cases ht : (decide (x ≤ p) && decide (p ≤ y))
      · have H := Lib.hid ht
        clear ht
        go_wp2_with fail
        go_quiet ((go_at_call 28; (first | exact Calls.quiet_of_same (H.out ▸ between_any p x y _) | exact quiet_add_same (H.out ▸ between_any p x y _))))
        go_wp2
        go_roundw
        case rel => exact ⟨k + 1, by omega, by go_num, by rw [HT.out, memB_snoc, HALL.out, H.out]; rfl, _, rfl⟩
        case measure => simp [intOf]; omega
      · have H := Lib.hid ht
        clear ht
        go_wp2_with fail
        go_quiet ((go_at_call 28; (first | exact Calls.quiet_of_same (H.out ▸ between_any p x y _) | exact quiet_add_same (H.out ▸ between_any p x y _))))
        go_wp2
        go_ret
        exact ⟨ret_bool (HM.out H.out).symm, _, World.drewN_drewN ..⟩
    · obtain rfl : k = n := by omega
      go_wp2
      go_ret
      exact ⟨ret_bool (memB_none (by rw [HL.out]; exact HALL.out)).symm, m, rfl⟩
theorem bytL_strOf : ∀ (l : List Int), (∀ b ∈ l, 0 ≤ b ∧ b ≤ 255) → bytL (strOf l) = l := by
  intro l
  have key : ∀ (l : List Int) (r : ByteArray), (∀ b ∈ l, 0 ≤ b ∧ b ≤ 255) → bytL (l.foldl (fun r n => r.push (UInt8.ofNat n.toNat)) r) = bytL r ++ l := by
    intro l
    induction l with
    | nil => intro r _; simp
    | cons x l ih =>
      intro r h
      have hx := h x (by simp)
      rw [List.foldl_cons, ih _ fun b hb => h b (by simp [hb])]
      have e : bytL (r.push (UInt8.ofNat x.toNat)) = bytL r ++ [x] := by
        unfold bytL
        rw [ByteArray.data_push, Array.toList_push, List.map_append]
        congr 1
        simp only [List.map_cons, List.map_nil]
        congr 1
        rw [UInt8.toNat_ofNat']
        omega
      rw [e, List.append_assoc]; rfl
  intro h
  have := key l ByteArray.empty h
  unfold strOf
  rw [this]
  simp [bytL]
theorem FinR.shape {enc : Int} {a : List (Int × Int)} {ls : List (List (Int × Int))} (h : FinR enc a ls) : ∀ r ∈ ls, (1 ≤ r.length ∧ r.length ≤ 4) ∧ ∀ x ∈ r, 0 ≤ x.1 ∧ x.1 ≤ x.2 ∧ x.2 ≤ 255 := h.1.shape
theorem FinR.rise {enc : Int} {a : List (Int × Int)} {ls : List (List (Int × Int))} (h : FinR enc a ls) {i : Nat} (hi : i + 1 < ls.length) : lexB (keyR (ls[i]'(by omega))) (keyR ls[i + 1]) = true :=
  cov_rises (n := 4) h.1.cov (fun r hr x hx => ((h.shape r hr).2 x hx).2.1) h.2 hi
theorem FinR.point {enc : Int} {a : List (Int × Int)} {ls : List (List (Int × Int))} (h : FinR enc a ls) {p : Int} (hp : ScalE enc p) : goesN ls (strOf (flatB enc [p])) = (memB a p).toNat := by
  have e : flatB enc [p] = codeE enc p := by simp [flatB, bytesOf_code hp]
  have hr : ∀ b ∈ codeE enc p, 0 ≤ b ∧ b ≤ 255 := by
    rw [← bytesOf_code hp]
    exact bytesOf_range (by rw [scalarB_eq]; exact (scalB_iff enc p).2 hp)
  rw [goesN_cnt, e, bytL_strOf _ hr]
  have hi : ECode (codeE enc) (fun p => mem a p ∧ ScalE enc p) (codeE enc p) ↔ mem a p := by
    rw [ECode.iff]; exact ⟨fun k => k.1, fun k => ⟨k, hp⟩⟩
  cases hm : memB a p
  · rw [(h.1.cov _).2 (by rw [hi, ← memB_iff, hm]; simp)]; rfl
  · rw [(h.1.cov _).1 (by rw [hi, ← memB_iff, hm])]; rfl
theorem FinR.text {enc : Int} {a : List (Int × Int)} {ls : List (List (Int × Int))} (h : FinR enc a ls) (s : ByteArray) : goesN ls s = 0 ∨ (goesN ls s = 1 ∧ ∃ c, memB a c = true ∧ ScalE enc c ∧ bytL s = codeE enc c) := by
  rw [goesN_cnt]
  by_cases hs : ECode (codeE enc) (fun p => mem a p ∧ ScalE enc p) (bytL s)
  · refine .inr ⟨(h.1.cov _).1 hs, ?_⟩
    obtain ⟨c, ⟨h1, h2⟩, h3⟩ := hs
    exact ⟨c, (memB_iff a c).2 h1, h2, h3⟩
  · exact .inl ((h.1.cov _).2 hs)
theorem roadE_no {enc : Int} {a : List (Int × Int)} (h : isEncB enc = false) : roadE enc a = 7 := by
  unfold isEncB at h
  unfold roadE
  rw [if_neg]
  simp at h; omega
theorem roadE_yes {enc : Int} {a : List (Int × Int)} (h : isEncB enc = true) : roadE enc a = chk a := by
  unfold isEncB at h
  unfold roadE
  rw [if_pos]
  simpa using h
theorem flat_len1 (enc p : Int) : (flatB enc [p]).length ≤ 4000 := by
  have := bytesOf_len enc p
  simp only [flatB, List.flatMap_cons, List.flatMap_nil, List.append_nil]; omega
set_option maxRecDepth 100000 in
set_option maxHeartbeats 4000000 in
theorem lawRoads_bad (enc : Int) (a : List (Int × Int)) (p : Int) (s : ByteArray) (A : Option Addr) (n c : Nat) (w : World) (hnc : n ≤ c) (hc : c ≤ maxLen) (ha : Rds w w.heap.size 2 A n (rngs a)) (hk : roadE enc a ≠ 0) :
    Calls Try.prog 3 #[.int .i64 enc, .slice A n c, .int .i64 p, .string s] w fun e w' => e = .returned (.bool true) ∧ Below w.heap.size w w' := by
  have HA := Lib.hid ha
  have CR := Lib.hid (roads5 enc a A n c w hnc hc ha)
  have hcn : n ≤ maxLen := by omega
  clear ha
  cases he : isEncB enc
  · have HE := Lib.hid (roadE_no (a := a) he)
    have HEN := Lib.hid he
    clear he hk
    go_enter Try.func3, Try.ntmps3
    go_wp2_with fail
    refine CR.out.mono ?_
    rintro e w1 ⟨ls, A2, n2, c2, vs, rfl, h1, h2, h3, h4, h5, h6, h7⟩
    have hn2 : n2 = 0 := by
      have e1 := own_count h3.out h4.out
      rw [h7.out (by rw [HE.out]; decide)] at e1
      exact e1
    subst hn2
    rw [HE.out]
    clear h1 h2 h3 h4 h6 h7 CR
    have HB := Lib.hid h5
    clear h5
    go_wp2_with (first
      | (go_at_call 6; refine (isEnc_any _ _).mono ?_; rintro e w' ⟨rfl, rfl⟩; rw [HEN.out])
      | fail)
    refine (splitBegun49 w1).mono ?_
    rintro e w2 ⟨rfl, hb2⟩
    have HB2 := Lib.hid (HB.out.trans (hb2.mono HB.out.size))
    clear hb2
    go_wp2_with fail
    refine (splitBegun49 w2).mono ?_
    rintro e w3 ⟨rfl, hb3⟩
    have HB3 := Lib.hid (HB2.out.trans (hb3.mono HB2.out.size))
    clear hb3
    go_wp2
    go_ret
    exact ⟨rfl, HB3.out⟩
  · have HE := Lib.hid (roadE_yes (a := a) he)
    have HEN := Lib.hid he
    rw [HE.out] at hk
    clear he
    obtain ⟨K, hK⟩ : ∃ K, K = chk a := ⟨_, rfl⟩
    rw [← hK] at hk HE
    have HK := Lib.hid hK
    clear hK
    have hk1 : (K != 0) = true := by simpa using hk
    have hk2 : (K == 0) = false := by simpa using hk
    go_enter Try.func3, Try.ntmps3
    go_wp2_with fail
    refine CR.out.mono ?_
    rintro e w1 ⟨ls, A2, n2, c2, vs, rfl, h1, h2, h3, h4, h5, h6, h7⟩
    have hn2 : n2 = 0 := by
      have e1 := own_count h3.out h4.out
      rw [h7.out (by rw [HE.out]; exact hk)] at e1
      exact e1
    subst hn2
    rw [HE.out]
    clear h1 h2 h3 h4 h6 h7 CR
    have HB := Lib.hid h5
    have HR1 := Lib.hid (HA.out.next h5)
    clear h5
    go_wp2_with (first
      | (go_at_call 6; refine (isEnc_any _ _).mono ?_; rintro e w' ⟨rfl, rfl⟩; rw [HEN.out])
      | fail)
    refine (checkSet_of a K HK.out.symm A n c _ _ hcn HR1.out).mono ?_
    rintro e w2 ⟨rfl, q, rfl⟩
    have HB1 := Lib.hid (below_drewN HB.out q)
    go_wp2_with fail
    refine (splitBegun49 (w1.drewN q)).mono ?_
    rintro e w2 ⟨rfl, hb2⟩
    have HB2 := Lib.hid (HB1.out.trans (hb2.mono HB1.out.size))
    clear hb2
    go_wp2_with fail
    refine (splitBegun49 w2).mono ?_
    rintro e w3 ⟨rfl, hb3⟩
    have HB3 := Lib.hid (HB2.out.trans (hb3.mono HB2.out.size))
    clear hb3
    go_wp2
    go_ret
    exact ⟨rfl, HB3.out⟩
set_option maxRecDepth 100000 in
set_option maxHeartbeats 4000000 in
theorem lawRoads_good (enc : Int) (a : List (Int × Int)) (p : Int) (s : ByteArray) (A : Option Addr) (n c : Nat) (w : World) (hnc : n ≤ c) (hc : c ≤ maxLen) (ha : Rds w w.heap.size 2 A n (rngs a)) (hsz : s.size ≤ maxLen) (hk : roadE enc a = 0) :
    Calls Try.prog 3 #[.int .i64 enc, .slice A n c, .int .i64 p, .string s] w fun e w' => e = .returned (.bool true) ∧ Below w.heap.size w w' := by
  have HA := Lib.hid ha
  have CR := Lib.hid (roads5 enc a A n c w hnc hc ha)
  have hcn : n ≤ maxLen := by omega
  have hed : isEncB enc = true ∧ 1 ≤ enc ∧ enc ≤ 4 ∧ chk a = 0 := by
    unfold roadE at hk
    by_cases h : 1 ≤ enc ∧ enc ≤ 4
    · rw [if_pos h] at hk
      exact ⟨by unfold isEncB; simp; exact h, h.1, h.2, hk⟩
    · rw [if_neg h] at hk; cases hk
  obtain ⟨he, he1, he2, hca⟩ := hed
  have HEN := Lib.hid he
  have HK := Lib.hid hk
  have HCA := Lib.hid hca
  have HE14 := Lib.hid (And.intro he1 he2)
  unfold maxLen at hsz
  clear ha he he1 he2 hca hk
  go_enter Try.func3, Try.ntmps3
  go_wp2_with fail
  refine CR.out.mono ?_
  rintro e w1 ⟨ls, A2, n2, c2, vs, rfl, h1, h2, h3, h4, h5, h6, h7⟩
  have HF := Lib.hid (h6.out HK.out)
  have HN := Lib.hid (own_count h3.out h4.out)
  have hn2 : n2 ≤ 1114112 := by have := HN.out; have := HF.out.1.many; omega
  rw [HK.out]
  have HB := Lib.hid h5
  have HR1 := Lib.hid (HA.out.next h5)
  have HO1 := Lib.hid h3.out
  have HS1 := Lib.hid h4.out
  clear h1 h2 h3 h4 h5 h6 h7 CR
  go_wp2_with (first
    | (go_at_call 6; refine (isEnc_any _ _).mono ?_; rintro e w' ⟨rfl, rfl⟩; rw [HEN.out])
    | fail)
  refine (checkSet_of a 0 HCA.out A n c _ _ hcn HR1.out).mono ?_
  rintro e w2 ⟨rfl, q, rfl⟩
  have HB1 := Lib.hid (below_drewN (Below.refl w1.heap.size w1) q)
  go_wp2_with fail
  refine (splitBegun49 (w1.drewN q)).mono ?_
  rintro e w2 ⟨rfl, hb2⟩
  have HB2 := Lib.hid (HB1.out.trans (hb2.mono HB1.out.size))
  have HR2 := Lib.hid (HR1.out.next HB2.out)
  have HBW := Lib.hid (HB.out.trans (HB2.out.mono HB.out.size))
  have HV := Lib.hid (Rds.of_own (own_below HO1.out HB2.out (Nat.le_refl _)))
  have HSL := Lib.hid (HS1.out.below HB2.out).sls
  clear hb2 HB1 HB2 HR1 HB HO1 HS1
  go_wp2_with fail
  go_loopw [12] (fun i wr => ∃ k q : Nat, i = .int .i64 (k : Int) ∧ k ≤ n2 ∧ wr = w2.drewN q) (fun i _ => (n2 - intOf i).toNat)
  case atStart => exact ⟨0, 0, by go_num, by omega, rfl⟩
  case round =>
    obtain ⟨k, q, rfl, hkn, rfl⟩ := hrel
    by_cases hlt : k < n2
    · obtain ⟨b1, off1, hl1, hA, hb1, hc1⟩ := HV.out.at1 hlt
      obtain ⟨hl2, A3, n3, c3, hvk, hnc3, hc3m, hr3⟩ := HSL.out.at2 hl1
      rw [hvk] at hc1
      have HAA := Lib.hid hA
      have HSH := Lib.hid (HF.out.shape _ (List.getElem_mem hl2))
      have hn3 : 1 ≤ n3 ∧ n3 ≤ 4 := by
        have := HSH.out.1
        have := hr3.rngs_len
        omega
      have HR3 := Lib.hid hr3
      have HRI := Lib.hid (fun (h0 : 0 < k) => (show lexB (keyR (ls[k - 1]'(by omega))) (keyR ls[k]) = true from by
        have h := HF.out.rise (i := k - 1) (by omega)
        have e : k - 1 + 1 = k := by omega
        simp only [e] at h
        exact h))
      have hk' : (k : Int) < (n2 : Int) := by omega
      have hk0 : (0 : Int) ≤ (k : Int) := by omega
      obtain ⟨g1, g2⟩ := hn3
      have g1' : ¬ (n3 : Int) < 1 := by omega
      have g2' : ¬ (4 : Int) < (n3 : Int) := by omega
      subst hA
      clear hvk hr3
      go_wp2_with fail
      go_loopw [13] (fun i wr => ∃ j q : Nat, i = .int .i64 (j : Int) ∧ j ≤ n3 ∧ wr = w2.drewN q) (fun i _ => (n3 - intOf i).toNat)
      case atStart => exact ⟨0, q, by go_num, by omega, rfl⟩
      case round =>
        obtain ⟨j, q, rfl, hjn, rfl⟩ := hrel
        by_cases hjl : j < n3
        · obtain ⟨b4, off4, hl4, hA4, hb4, hc4, hd4⟩ := HR3.out.rng_at hjl
          have hxy := HSH.out.2 _ (List.getElem_mem hl4)
          obtain ⟨r, hr⟩ : ∃ r, r = ls[k][j] := ⟨_, rfl⟩
          rw [← hr] at hc4 hd4 hxy
          clear hr
          obtain ⟨x, y⟩ := r
          simp only at hc4 hd4 hxy
          obtain ⟨t0, t1, t2⟩ := hxy
          have t0' : ¬ x < 0 := by omega
          have t1' : ¬ y < x := by omega
          have t2' : ¬ 255 < y := by omega
          have d0 : decide (x < 0) = false := decide_eq_false t0'
          have d1 : decide (y < x) = false := decide_eq_false t1'
          have d2 : decide (255 < y) = false := decide_eq_false t2'
          have j0 : (0 : Int) ≤ (j : Int) := by omega
          have j2 : (j : Int) < (n3 : Int) := by omega
          subst hA4
          go_wp2_with fail
          go_quiet (fail)
          go_wp2_with fail
          go_roundw
          case rel => exact ⟨j + 1, _, by go_num, by omega, rfl⟩
          case measure => simp only [intOf]; omega
        · have j2 : ¬ (j : Int) < (n3 : Int) := by omega
          by_cases h0 : 0 < k
          · have HLX := Lib.hid (HRI.out h0)
            have hp1 : k - 1 < n2 := by omega
            obtain ⟨b5, off5, hl5, hA5, hb5, hc5⟩ := HV.out.at1 hp1
            obtain ⟨hl6, A6, n6, c6, hv6, hnc6, hc6m, hr6⟩ := HSL.out.at2 hl5
            rw [hv6] at hc5
            obtain ⟨rfl, rfl⟩ : b1 = b5 ∧ off1 = off5 := by injection hA5 with h; injection h with h1 h2; exact ⟨h1, h2⟩
            have HSH6 := HF.out.shape _ (List.getElem_mem hl6)
            have hn6 : n6 ≤ 4 := by
              have := HSH6.1
              have := hr6.rngs_len
              omega
            have CX := Lib.hid (fun x => (show Calls Try.prog 9 #[.slice A6 n6 c6, .slice A3 n3 c3] (w2.drewN (q + x)) fun e w' => e = .returned (.bool (lexB (keyR ls[k - 1]) (keyR ls[k]))) ∧ ∃ m, w' = w2.drewN (q + m) from (rises9 ls[k - 1] ls[k] A6 A3 n6 c6 n3 c3 (w2.drewN (q + x)) (by omega) (by omega) hr6 HR3.out).mono fun e w' ⟨h1, q9, h2⟩ => ⟨h1, x + q9, by rw [h2]; simp [World.drewN, Nat.add_assoc]⟩))
            rw [HLX.out] at CX
            have hk1 : ((k : Int) - 1).toNat = k - 1 := by omega
            have hw1 : IntKind.i64.wrap ((k : Int) - 1) = ((k - 1 : Nat) : Int) := by rw [IntKind.wrap_i64]; omega
            have h0' : (0 : Int) < (k : Int) := by omega
            have hp2 : ((k - 1 : Nat) : Int) < (n2 : Int) := by omega
            have hp3 : (0 : Int) ≤ ((k - 1 : Nat) : Int) := by omega
            clear hv6 HSH6 hr6 hp1
            go_wp2_with fail
            go_quiet ((exact CX.out _))
            clear hw1 hk1
            go_wp2_with fail
            go_roundw
            case rel => exact ⟨k + 1, _, by go_num, by omega, rfl⟩
            case measure => simp only [intOf]; omega
          · have h0' : ¬ (0 : Int) < (k : Int) := by omega
            go_wp2_with fail
            go_quiet (fail)
            go_wp2_with fail
            go_roundw
            case rel => exact ⟨k + 1, _, by go_num, by omega, rfl⟩
            case measure => simp only [intOf]; omega
    · have hk' : ¬ (k : Int) < (n2 : Int) := by omega
      obtain ⟨W3, hW3⟩ : ∃ W3, W3 = w2.drewN q := ⟨_, rfl⟩
      have HV3 := Lib.hid (HV.out.drewN q)
      have HB3 := Lib.hid (below_drewN HBW.out q)
      have HR3 := Lib.hid (HR2.out.drewN q)
      have HS3 := Lib.hid (show Sls (w2.drewN q) w2.heap.size vs ls from HSL.out)
      have hws : W3.heap.size = w2.heap.size := by rw [hW3]; rfl
      rw [← hW3] at HV3 HB3 HR3 HS3
      rw [← hws] at HV3 HR3 HS3
      have HW3 := Lib.hid hW3
      clear hW3 hws HV HSL HR2 HBW
      have HFP := Lib.hid (fun (h : scalarB enc p = true) => HF.out.point ((scalB_iff enc p).1 (by rw [← scalarB_eq]; exact h)))
      have HTX := Lib.hid (fun (h : scalarB enc p = true) => textE_ok enc [p] HEN.out (by simp [h]) (flat_len1 enc p))
      obtain ⟨sb, hsb⟩ : ∃ sb, sb = scalarB enc p := ⟨_, rfl⟩
      rw [← hsb] at HFP HTX
      have HSB := Lib.hid hsb
      clear hsb
      go_wp2_with fail
      rw [← HW3.out]
      refine (isScalar_any enc p _).mono ?_
      rintro e w' ⟨rfl, rfl⟩
      rw [← HSB.out]
      have HVS := Lib.hid (HV3.out.next (Below.refl _ _))
      go_upto_if 137 with (fail)
      go_cut [14, 15, 16] from 137 to 157 (fun x y z wd => Hid (Below W3.heap.size W3 wd))
      case first =>
        cases sb
        · have hb := Lib.hid (Below.refl W3.heap.size W3)
          go_wp2_with fail
          go_meet
          exact hb
        · have E1 := Lib.hid (HTX.out rfl)
          have E2 := Lib.hid (HFP.out rfl)
          have hz4 : (W3.alloc (.cells #[.int .i64 p] 3)).heap.size = W3.heap.size + 1 := by simp
          have CT := Lib.hid (text_any enc [p] (some ⟨W3.heap.size, 0, none⟩) 1 1 (W3.alloc (.cells #[.int .i64 p] 3)) (by decide) (by decide) (by rw [hz4]; exact Rds.new W3 1 1 #[.int .i64 p] 3 (ints [p]) rfl rfl))
          have HB4 := Lib.hid (show Below W3.heap.size W3 (W3.alloc (.cells #[.int .i64 p] 3)) by go_grown)
          clear hz4
          go_wp2_with fail
          refine CT.out.mono ?_
          rintro e w5 ⟨rfl, hb5⟩
          rw [E1.out]
          simp only
          have HB5 := Lib.hid (HB4.out.trans (hb5.mono HB4.out.size))
          have HV5 := Lib.hid (HV3.out.next HB5.out)
          have HS5 := Lib.hid ((HS3.out.below HB5.out (Nat.le_refl _)).more HB5.out.size)
          have HR5 := Lib.hid (HR3.out.next HB5.out)
          clear hb5 HB4 CT
          go_wp2_with fail
          refine (goes53 ls vs (strOf (flatB enc [p])) A2 n2 c2 w5 (by unfold maxLen; omega) HV5.out HS5.out).mono ?_
          rintro e w6 ⟨rfl, q6, rfl⟩
          have HB6 := Lib.hid (below_drewN HB5.out q6)
          have CW := Lib.hid (within13 a p A n c (w5.drewN q6) _ hcn (HR5.out.drewN q6))
          cases hm : memB a p
          · have HM := Lib.hid hm
            rw [show ((goesN ls (strOf (flatB enc [p])) : Nat) : Int) = 0 from by rw [E2.out, hm]; rfl]
            clear hm
            rw [HM.out] at CW
            go_wp2_with fail
            refine CW.out.mono ?_
            rintro e w7 ⟨rfl, q7, rfl⟩
            have HB7 := Lib.hid (below_drewN HB5.out (q6 + q7))
            go_wp2_with fail
            go_meet
            exact HB7
          · have HM := Lib.hid hm
            rw [show ((goesN ls (strOf (flatB enc [p])) : Nat) : Int) = 1 from by rw [E2.out, hm]; rfl]
            clear hm
            rw [HM.out] at CW
            go_wp2_with fail
            refine CW.out.mono ?_
            rintro e w7 ⟨rfl, q7, rfl⟩
            have HB7 := Lib.hid (below_drewN HB5.out (q6 + q7))
            go_wp2_with fail
            go_meet
            exact HB7
      case rest =>
        have HB4 := Lib.hid (HB3.out.trans (hcut.out.mono HB3.out.size))
        have HV4 := Lib.hid (HV3.out.next hcut.out)
        have HS4 := Lib.hid ((HS3.out.below hcut.out (Nat.le_refl _)).more hcut.out.size)
        have HR4 := Lib.hid (HR3.out.next hcut.out)
        clear hcut HB3 HV3 HS3 HR3
        go_upto_if 160 with (fail)
        go_cut [3] from 160 to 162 (fun z wd => ∃ t : ByteArray, z = .string t ∧ t.size ≤ 4 ∧ wc = wd)
        case first =>
          by_cases h4 : 4 < s.size
          · have h4' : (4 : Int) < (s.size : Int) := by omega
            have ht : (s.extract 0 4).size ≤ 4 := by rw [ByteArray.size_extract]; omega
            go_wp2_with fail
            go_meet
            exact ⟨_, rfl, ht, rfl⟩
          · have h4' : ¬ (4 : Int) < (s.size : Int) := by omega
            go_wp2_with fail
            go_meet
            exact ⟨s, rfl, by omega, rfl⟩
        case rest =>
          obtain ⟨t, rfl, ht, rfl⟩ := hcut
          have CS := Lib.hid (stand14 enc HE14.out t wc ht)
          have HTT := Lib.hid (HF.out.text t)
          go_wp2_with fail
          refine CS.out.mono ?_
          rintro e w5 ⟨qq, nn, rfl, hb5, HQ⟩
          have HB5 := Lib.hid (HB4.out.trans (hb5.mono HB4.out.size))
          have HV5 := Lib.hid (HV4.out.next hb5)
          have HS5 := Lib.hid ((HS4.out.below hb5 (Nat.le_refl _)).more hb5.size)
          have HR5 := Lib.hid (HR4.out.next hb5)
          clear hb5 CS
          go_wp2_with fail
          refine (goes53 ls vs t A2 n2 c2 w5 (by unfold maxLen; omega) HV5.out HS5.out).mono ?_
          rintro e w6 ⟨rfl, q6, rfl⟩
          have HB6 := Lib.hid (below_drewN HB5.out q6)
          rcases HTT.out with h0 | ⟨h1, cc, k1, k2, k3⟩
          · rw [h0]
            go_wp2
            go_ret
            exact ⟨rfl, HB6.out⟩
          · rw [h1]
            obtain ⟨e1, e2⟩ := HQ.out cc k3 k2
            subst e1 e2
            have CW := Lib.hid (within13 a qq A n c (w5.drewN q6) _ hcn (HR5.out.drewN q6))
            rw [k1] at CW
            clear k1 k2 k3 h1
            go_wp2_with fail
            refine CW.out.mono ?_
            rintro e w7 ⟨rfl, q7, rfl⟩
            have HB7 := Lib.hid (below_drewN HB5.out (q6 + q7))
            go_wp2
            go_ret
            exact ⟨rfl, HB7.out⟩
theorem lawRoads (enc : Int) (a : List (Int × Int)) (p : Int) (s : ByteArray) (A : Option Addr) (n c : Nat) (w : World) (hnc : n ≤ c) (hc : c ≤ maxLen) (ha : Rds w w.heap.size 2 A n (rngs a)) (hsz : s.size ≤ maxLen) :
    Calls Try.prog 3 #[.int .i64 enc, .slice A n c, .int .i64 p, .string s] w fun e w' => e = .returned (.bool true) ∧ Below w.heap.size w w' := by
  by_cases h : roadE enc a = 0
  · exact lawRoads_good enc a p s A n c w hnc hc ha hsz h
  · exact lawRoads_bad enc a p s A n c w hnc hc ha h
end Go.Proofs.Ytihodjfnhkihiaa
