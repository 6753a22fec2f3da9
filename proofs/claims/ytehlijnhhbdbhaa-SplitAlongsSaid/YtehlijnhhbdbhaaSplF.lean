/- SplitAlongs: walked. -/
import Derived.Test.YtehlijnhhbdbhaaSplE
import Derived.Test.YtehlijnhhbdbhaaSplG
namespace Go.Proofs.Ytehlijnhhbdbhaa
open Go.RowKit
set_option linter.unusedVariables false
set_option maxHeartbeats 1000000 in
theorem isEnc48 (e : Int) (b : Bool) (w : World) (h : (decide (1 ≤ e) && decide (e ≤ 4)) = b) : Calls Try.prog 48 #[.int .i64 e] w fun en w' => en = .returned (.bool b) ∧ w = w' := by
  subst h
  go_enter Try.func48, Try.ntmps48
  go_wp2
  all_goals (go_ret; refine ⟨ret_bool ?_, rfl⟩; simp_all; try omega)
theorem bad_take (ls : List (List (Int × Int))) (k : Nat) (h : k < ls.length) : (ls.take (k + 1)).any roadBad = ((ls.take k).any roadBad || roadBad ls[k]) := by
  rw [take_snoc' ls k h, List.any_append]; simp
theorem nb_take (r : List (Int × Int)) (k : Nat) (h : k < r.length) : (r.take (k + 1)).any (fun x => !isByteB x) = ((r.take k).any (fun x => !isByteB x) || !isByteB r[k]) := by
  rw [take_snoc' r k h, List.any_append]; simp
theorem firstL_drop (ls : List (List (Int × Int))) (t : ByteArray) (k : Nat) (h : k < ls.length) : firstL (ls.drop k) t = if fitsB ls[k] t = true then (ls[k].length : Int) else firstL (ls.drop (k + 1)) t := by
  rw [List.drop_eq_getElem_cons h]
  unfold firstL
  by_cases hf : fitsB ls[k] t = true
  · rw [List.find?_cons_of_pos (by simpa using hf), if_pos hf]
  · rw [List.find?_cons_of_neg (by simpa using hf), if_neg hf]
/-- how far the law's first loop is -/
def FormAt (w wr : World) (b : Bool) (v : Value) : Prop := v = .bool b ∧ ∃ q, wr = w.drewN q
set_option maxRecDepth 100000 in
set_option maxHeartbeats 80000000 in
theorem lawAlongs (enc : Int) (ls : List (List (Int × Int))) (vs : List Value) (s : ByteArray) (at_ : Int) (A : Option Addr) (n c : Nat) (w : World) (hnc : n ≤ c) (hcm : c ≤ maxLen) (hv : Rds w w.heap.size 1 A n vs) (hs : Sls w w.heap.size vs ls) (hsz : s.size < 2 ^ 62) :
    Calls Try.prog 15 #[.int .i64 enc, .slice A n c, .string s, .int .i64 at_] w fun e w' => e = .returned (.bool true) ∧ Below w.heap.size w w' := by
  have hnv : vs.length = n := by have := hv.1; omega
  have HNL := Lib.hid (hs.1.symm.trans hnv)
  have HV := Lib.hid hv
  have HS := Lib.hid hs
  have C1 := Lib.hid (along55 enc ls vs s at_ A n c w (by omega) hv hs)
  clear hv hs hnv
  unfold maxLen at hcm
  obtain ⟨E, hE⟩ : ∃ E, E = alE enc ls s at_ := ⟨_, rfl⟩
  obtain ⟨N, hN⟩ : ∃ N, N = alN enc ls s at_ := ⟨_, rfl⟩
  unfold AlOut at C1
  rw [← hE, ← hN] at C1
  have HE := Lib.hid hE
  have HN := Lib.hid hN
  clear hE hN
  go_enter Try.func15, Try.ntmps15
  go_wp2_with fail
  refine C1.out.mono ?_
  rintro e w1 ⟨rfl, hb1⟩
  have HV1 := Lib.hid (HV.out.next hb1)
  have HS1 := Lib.hid ((HS.out.below hb1 (Nat.le_refl _)).more hb1.size)
  clear C1 HV HS
  go_wp2_with fail
  go_loopw [13, 14] (fun v i wr => ∃ k q : Nat, k ≤ n ∧ i = .int .i64 k ∧ v = .bool ((ls.take k).any roadBad) ∧ wr = w1.drewN q) (fun _ i _ => n - (intOf i).toNat)
  case atStart => exact ⟨0, 0, Nat.zero_le _, rfl, rfl, rfl⟩
  case round =>
    obtain ⟨k, q, hk, rfl, rfl, rfl⟩ := hrel
    by_cases hlt : k < n
    · obtain ⟨b1, off1, hl1, hA, hbb1, hc1⟩ := HV1.out.at1 hlt
      obtain ⟨hl2, A2, n2, c2, hvk, hnc2, hc2m, hr2⟩ := HS1.out.at2 hl1
      rw [hvk] at hc1
      clear hvk
      have HAA := Lib.hid hA
      subst hA
      have HT := Lib.hid (bad_take ls k hl2)
      have HA2 := Lib.hid hr2.rngs_len
      obtain ⟨r, hr⟩ : ∃ r, r = ls[k] := ⟨_, rfl⟩
      rw [← hr] at HT HA2 hr2
      clear hr
      have k2 : (k : Int) < (n : Int) := by omega
      have k0 : (0 : Int) ≤ (k : Int) := by omega
      unfold maxLen at hc2m
      have HRB := Lib.hid (show roadBad r = (decide (n2 < 1) || decide (4 < n2) || r.any fun x => !isByteB x) by unfold roadBad; rw [HA2.out])
      generalize (ls.take k).any roadBad = f0 at HT ⊢
      obtain ⟨f1, hf1⟩ : ∃ f1, f1 = (f0 || (decide (n2 < 1) || decide (4 < n2))) := ⟨_, rfl⟩
      have HF1 := Lib.hid hf1
      go_upto_region 7 with (fail)
      go_cut [13] from 32 to 49 (fun z wc => z = .bool f1 ∧ wc = w1.drewN q)
      case first =>
        subst hf1
        cases f0
        · by_cases h0 : n2 < 1
          · have h0' : (n2 : Int) < 1 := by omega
            have h00 : decide (n2 < 1) = true := decide_eq_true h0
            go_wp2_with fail
            go_meet
            exact ⟨congrArg Value.bool (by simp [h0]), rfl⟩
          · have h0' : ¬ (n2 : Int) < 1 := by omega
            by_cases h4 : 4 < n2
            · have h4' : (4 : Int) < (n2 : Int) := by omega
              go_wp2_with fail
              go_meet
              exact ⟨congrArg Value.bool (by simp [h4]), rfl⟩
            · have h4' : ¬ (4 : Int) < (n2 : Int) := by omega
              go_wp2_with fail
              go_meet
              exact ⟨congrArg Value.bool (by simp [h0, h4]), rfl⟩
        · go_wp2_with fail
          go_meet
          exact ⟨congrArg Value.bool (by simp), rfl⟩
      case rest =>
        obtain ⟨rfl, rfl⟩ := hcut
        clear hf1
        go_wp2_with fail
        go_loopw [13, 15] (fun v i wr => ∃ j q' : Nat, j ≤ n2 ∧ i = .int .i64 j ∧ v = .bool (f1 || (r.take j).any fun x => !isByteB x) ∧ wr = w1.drewN q') (fun _ i _ => n2 - (intOf i).toNat)
        case atStart => exact ⟨0, q, Nat.zero_le _, rfl, by simp, rfl⟩
        case round =>
          obtain ⟨j, q', hj, rfl, rfl, rfl⟩ := hrel
          by_cases hjl : j < n2
          · obtain ⟨b3, off3, hl3, hA3, hb3, hc3, hd3⟩ := hr2.rng_at hjl
            have HA3 := Lib.hid hA3
            subst hA3
            have HT3 := Lib.hid (nb_take r j hl3)
            obtain ⟨p, hp⟩ : ∃ p, p = r[j] := ⟨_, rfl⟩
            rw [← hp] at hc3 hd3 HT3
            clear hp
            obtain ⟨x, y⟩ := p
            simp only at hc3 hd3
            have j0 : (0 : Int) ≤ (j : Int) := by omega
            have j2 : (j : Int) < (n2 : Int) := by omega
            generalize hg : (f1 || (r.take j).any fun x => !isByteB x) = g
            have HG := Lib.hid hg
            clear hg
            have HNX := Lib.hid (show (f1 || (r.take (j + 1)).any fun x => !isByteB x) = (g || !isByteB (x, y)) by rw [HT3.out, ← Bool.or_assoc, HG.out])
            cases g
            · by_cases hx : x < 0
              · have HBB := Lib.hid (show isByteB (x, y) = false by simp [isByteB]; omega)
                go_wp2_with fail
                go_quiet (fail)
                go_wp2
                go_roundw
                case rel => exact ⟨j + 1, _, by omega, by go_num, by rw [HNX.out, HBB.out]; rfl, rfl⟩
                case measure => simp [intOf]; omega
              · by_cases hy : 255 < y
                · have HBB := Lib.hid (show isByteB (x, y) = false by simp [isByteB]; omega)
                  have hy1 : decide (255 < y) = true := decide_eq_true hy
                  have hx1 : decide (x < 0) = false := decide_eq_false hx
                  clear hy
                  go_wp2_with fail
                  go_quiet (fail)
                  go_wp2
                  go_roundw
                  case rel => exact ⟨j + 1, _, by omega, by go_num, by rw [HNX.out, HBB.out]; rfl, rfl⟩
                  case measure => simp [intOf]; omega
                · by_cases hxy : y < x
                  · have HBB := Lib.hid (show isByteB (x, y) = false by simp [isByteB]; omega)
                    go_wp2_with fail
                    go_quiet (fail)
                    go_wp2
                    go_roundw
                    case rel => exact ⟨j + 1, _, by omega, by go_num, by rw [HNX.out, HBB.out]; rfl, rfl⟩
                    case measure => simp [intOf]; omega
                  · have HBB := Lib.hid (show isByteB (x, y) = true by simp [isByteB]; omega)
                    go_wp2_with fail
                    go_quiet (fail)
                    go_wp2
                    go_roundw
                    case rel => exact ⟨j + 1, _, by omega, by go_num, by rw [HNX.out, HBB.out, show decide (x < 0) = false from decide_eq_false (by omega), show decide (255 < y) = false from decide_eq_false (by omega), show decide (y < x) = false from decide_eq_false (by omega)]; rfl, rfl⟩
                    case measure => simp [intOf]; omega
            · go_wp2_with fail
              go_quiet (fail)
              go_wp2
              go_roundw
              case rel => exact ⟨j + 1, _, by omega, by go_num, by rw [HNX.out]; simp, rfl⟩
              case measure => simp [intOf]; omega
          · obtain rfl : j = n2 := by omega
            have HTR := Lib.hid (show r.take j = r from List.take_of_length_le (by rw [HA2.out]; exact Nat.le_refl _))
            go_wp2
            go_roundw
            case rel => exact ⟨k + 1, q', by omega, by go_num, by rw [HT.out, HRB.out, HTR.out, HF1.out, Bool.or_assoc], rfl⟩
            case measure => simp [intOf]; omega
    · obtain rfl : k = n := by omega
      have HTT := Lib.hid (show ls.take k = ls from List.take_of_length_le (by rw [HNL.out]; exact Nat.le_refl _))
      rw [HTT.out]
      have HB0 := Lib.hid (below_drewN hb1 q)
      obtain ⟨F, hF⟩ : ∃ F, F = ls.any roadBad := ⟨_, rfl⟩
      have HF := Lib.hid hF
      rw [← hF]
      clear hF
      by_cases he : 1 ≤ enc ∧ enc ≤ 4
      · have HEN := Lib.hid (show (decide (1 ≤ enc) && decide (enc ≤ 4)) = true by simp; omega)
        have HVE := Lib.hid he
        clear he
        go_wp2_with fail
        refine (isEnc48 enc true _ HEN.out).mono ?_
        rintro e w' ⟨rfl, rfl⟩
        by_cases hFF : F = true
        · subst hFF
          have h1 : E = 1 := by rw [HE.out]; unfold alE; rw [if_neg (fun h => h HVE.out), if_pos HF.out.symm]
          have h2 : N = 0 := by rw [HN.out, alN, ← HE.out, h1]; rfl
          subst h1 h2
          go_wp2_with fail
          refine (splitBegun49 _).mono ?_
          rintro e w2 ⟨rfl, hb2⟩
          go_wp2
          go_ret
          exact ⟨rfl, below_next HB0.out hb2⟩
        · obtain rfl : F = false := by cases F <;> simp_all
          clear hFF
          by_cases ha : at_ < 0
          · have h1 : E = 3 := by rw [HE.out]; unfold alE; rw [if_neg (fun h => h HVE.out), if_neg (by rw [← HF.out]; simp), if_pos (.inl ha)]
            have h2 : N = 0 := by rw [HN.out, alN, ← HE.out, h1]; rfl
            subst h1 h2
            go_wp2_with fail
            refine (splitBegun49 _).mono ?_
            rintro e w2 ⟨rfl, hb2⟩
            go_wp2
            go_ret
            exact ⟨rfl, below_next HB0.out hb2⟩
          · by_cases ha2 : (s.size : Int) < at_
            · have h1 : E = 3 := by rw [HE.out]; unfold alE; rw [if_neg (fun h => h HVE.out), if_neg (by rw [← HF.out]; simp), if_pos (.inr ha2)]
              have h2 : N = 0 := by rw [HN.out, alN, ← HE.out, h1]; rfl
              subst h1 h2
              go_wp2_with fail
              refine (splitBegun49 _).mono ?_
              rintro e w2 ⟨rfl, hb2⟩
              go_wp2
              go_ret
              exact ⟨rfl, below_next HB0.out hb2⟩
            · have h1 : E = 0 := by rw [HE.out]; unfold alE; rw [if_neg (fun h => h HVE.out), if_neg (by rw [← HF.out]; simp), if_neg (by omega)]
              have h2 := Lib.hid (show N = firstL ls (s.extract at_.toNat s.size) by rw [HN.out, alN, ← HE.out, h1, if_pos rfl])
              subst h1
              obtain ⟨m, rfl⟩ : ∃ m : Nat, at_ = (m : Int) := ⟨at_.toNat, by omega⟩
              have hms : m ≤ s.size := by omega
              have HLEN := Lib.hid (show ∀ r ∈ ls, r.length ≤ 4 from fun r hr => by
                have := List.any_eq_false.1 HF.out.symm r hr
                simp [roadBad] at this
                omega)
              have hm1 : decide (s.size < m) = false := decide_eq_false (by omega)
              have hm2 : decide ((m : Int) < 0) = false := decide_eq_false (by omega)
              have hms2 : ¬ (s.size : Int) < (m : Int) := by omega
              clear ha ha2
              have HFL := Lib.hid (fun k (h : k < ls.length) => firstL_drop ls (s.extract m s.size) k h)
              have HFE := Lib.hid (show firstL (ls.drop k) (s.extract m s.size) = 0 by rw [List.drop_of_length_le (by rw [HNL.out]; exact Nat.le_refl _)]; rfl)
              go_wp2_with fail
              obtain ⟨n', hn'⟩ : ∃ n', n' = k := ⟨_, rfl⟩
              go_loopw [12, 16] (fun v i wr => ∃ z q : Nat, z ≤ k ∧ i = .int .i64 ((z : Int) - 1) ∧ v = .int .i64 (firstL (ls.drop z) (s.extract m s.size)) ∧ Below w1.heap.size w1 wr) (fun _ i _ => (intOf i + 1).toNat)
              case atStart => exact ⟨k, 0, Nat.le_refl _, by go_num, by rw [HFE.out], below_q w1 q⟩
              case round =>
                obtain ⟨z, _, hz, rfl, rfl, hBz⟩ := hrel
                by_cases hz0 : z = 0
                · subst hz0
                  have HNN := Lib.hid (show firstL (ls.drop 0) (s.extract m s.size) = N by rw [List.drop_zero, h2.out]; simp)
                  rw [HNN.out]
                  go_wp2_with fail
                  refine (splitBegun49 _).mono ?_
                  rintro e w2 ⟨rfl, hb2⟩
                  go_wp2
                  go_ret
                  exact ⟨rfl, below_next (below_next hb1 hBz) hb2⟩
                · obtain ⟨i, rfl⟩ : ∃ i, z = i + 1 := ⟨z - 1, by omega⟩
                  have hik : i < k := by omega
                  obtain ⟨b1, off1, hl1, hA, hbb1, hc1⟩ := (HV1.out.below hBz (Nat.le_refl _)).at1 hik
                  obtain ⟨hl2, A2, n2, c2, hvk, hnc2, hc2m, hr2⟩ := (HS1.out.below hBz (Nat.le_refl _)).at2 hl1
                  have HS2 := Lib.hid (show Sls wr w1.heap.size [vs[i]] [ls[i]] from by rw [hvk]; exact Sls.single hnc2 hc2m hr2)
                  have HC1 := Lib.hid hc1
                  rw [hvk] at hc1
                  have HAA := Lib.hid hA
                  subst hA
                  have HA2 := Lib.hid hr2.rngs_len
                  have HST := Lib.hid (HFL.out i hl2)
                  have hn24 : n2 ≤ 4 := by rw [← HA2.out]; exact HLEN.out _ (List.getElem_mem hl2)
                  have HGF := Lib.hid (fun (h : m + (ls[i]'hl2).length ≤ s.size) => goes_fits (r := ls[i]'hl2) (s := s) (m := m) h)
                  have HFL2 := Lib.hid (fun (h : ¬ m + (ls[i]'hl2).length ≤ s.size) => fits_long (r := ls[i]'hl2) hms h)
                  obtain ⟨r, hr⟩ : ∃ r, r = ls[i] := ⟨_, rfl⟩
                  rw [← hr] at HST HA2 HGF HFL2 HS2
                  clear hr hvk
                  have i0 : (0 : Int) ≤ (i : Int) := by omega
                  have i2 : (i : Int) < (k : Int) := by omega
                  have hcast : (((i + 1 : Nat)) : Int) - 1 = (i : Int) := by omega
                  rw [hcast]
                  clear hcast hz0 hz
                  by_cases hfit : m + n2 ≤ s.size
                  · have W1 := Lib.hid (show IntKind.i64.wrap ((m : Int) + (n2 : Int)) = (m : Int) + (n2 : Int) from IntWalk.i64_in _ (by omega))
                    have W2 := Lib.hid (show IntKind.i64.wrap ((i : Int) + 1) = (i : Int) + 1 from IntWalk.i64_in _ (by omega))
                    have hfi : (m : Int) + (n2 : Int) ≤ (s.size : Int) := by omega
                    have hc1' : i + 1 ≤ c := by omega
                    have HRD := Lib.hid (show Rds wr w1.heap.size 1 (some ⟨b1, off1 + i, none⟩) 1 [vs[i]] from ⟨rfl, fun _ => ⟨b1, off1 + i, rfl, hbb1, fun j u hu => by
                      cases j with
                      | zero => simp at hu; subst hu; exact HC1.out
                      | succ j => simp at hu⟩⟩)
                    have hszr := hBz.size
                    have HGO := Lib.hid (fun x => goes53 [r] [vs[i]] (s.extract m (m + n2)) (some ⟨b1, off1 + i, none⟩) 1 (c - i) (wr.drewN x) (by decide) ((HRD.out.drewN x).more hszr) ⟨HS2.out.1, fun k h1 h2 => by obtain ⟨A, n, c, e1, e2, e3, e4⟩ := HS2.out.2 k h1 h2; exact ⟨A, n, c, e1, e2, e3, (e4.drewN x).more hszr⟩⟩)
                    have HGO2 := Lib.hid (fun (g : Nat) (hg : goesN [r] (s.extract m (m + n2)) = g) x => show Calls Try.prog 53 #[.slice (some ⟨b1, off1 + i, none⟩) 1 (c - i), .string (s.extract m (m + n2))] (wr.drewN x) fun e w' => e = .returned (.int .i64 (g : Nat)) ∧ ∃ q, w' = (wr.drewN x).drewN q from by subst hg; exact HGO.out x)
                    have hlen := HA2.out
                    have HGF2 := Lib.hid (show goesB r (s.extract m (m + n2)) ↔ fitsB r (s.extract m s.size) = true by have := HGF.out (by rw [hlen]; exact hfit); rwa [hlen] at this)
                    clear hlen
                    by_cases hff : fitsB r (s.extract m s.size) = true
                    · have HFV := Lib.hid (HST.out.trans (if_pos hff))
                      have HG1 := Lib.hid (HGO2.out 1 (by rw [goesN_one, if_pos (HGF2.out.2 hff)]))
                      clear hff
                      go_wp2_with fail
                      have wa := W1.out
                      have wb := W2.out
                      go_quiet ((go_at_call 53; exact Calls.quiet_of (HG1.out _)))
                      clear wa wb
                      go_wp2
                      go_roundw
                      case rel => exact ⟨i, 0, by omega, by go_num, by rw [HFV.out, HA2.out], below_drewN hBz _⟩
                      case measure => simp [intOf]
                    · have HFV := Lib.hid (HST.out.trans (if_neg hff))
                      have HG1 := Lib.hid (HGO2.out 0 (by rw [goesN_one, if_neg (fun h => hff (HGF2.out.1 h))]))
                      clear hff
                      go_wp2_with fail
                      have wa := W1.out
                      have wb := W2.out
                      go_quiet ((go_at_call 53; exact Calls.quiet_of (HG1.out _)))
                      clear wa wb
                      go_wp2
                      go_roundw
                      case rel => exact ⟨i, 0, by omega, by go_num, by rw [HFV.out], below_drewN hBz _⟩
                      case measure => simp [intOf]
                  · have hff := HFL2.out (by rw [HA2.out]; exact hfit)
                    have HFV := Lib.hid (HST.out.trans (if_neg (by rw [hff]; simp)))
                    have W1 := Lib.hid (show IntKind.i64.wrap ((m : Int) + (n2 : Int)) = (m : Int) + (n2 : Int) from IntWalk.i64_in _ (by omega))
                    have hfi : ¬ (m : Int) + (n2 : Int) ≤ (s.size : Int) := by omega
                    have hfb : decide ((m : Int) + (n2 : Int) ≤ (s.size : Int)) = false := decide_eq_false hfi
                    have hfc : (s.size : Int) < (m : Int) + (n2 : Int) := by omega
                    clear hff
                    go_wp2_with fail
                    have wa := W1.out
                    go_quiet (fail)
                    clear wa
                    go_wp2
                    go_roundw
                    case rel => exact ⟨i, 0, by omega, by go_num, by rw [HFV.out], below_drewN hBz _⟩
                    case measure => simp [intOf]
      · have h1 : E = 7 := by rw [HE.out]; unfold alE; rw [if_pos he]
        have h2 : N = 0 := by rw [HN.out, alN, ← HE.out, h1]; rfl
        subst h1 h2
        have HEN := Lib.hid (show (decide (1 ≤ enc) && decide (enc ≤ 4)) = false by rw [Bool.eq_false_iff]; simp; omega)
        clear he
        go_wp2_with fail
        refine (isEnc48 enc false _ HEN.out).mono ?_
        rintro e w' ⟨rfl, rfl⟩
        go_wp2_with fail
        refine (splitBegun49 _).mono ?_
        rintro e w2 ⟨rfl, hb2⟩
        go_wp2
        go_ret
        exact ⟨rfl, below_next HB0.out hb2⟩
end Go.Proofs.Ytehlijnhhbdbhaa
