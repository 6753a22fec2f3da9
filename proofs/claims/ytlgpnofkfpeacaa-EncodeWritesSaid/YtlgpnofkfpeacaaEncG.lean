/-
  TextOf of the reference, walked: what it answers is textE.
-/
import Derived.Test.YtlgpnofkfpeacaaEncF
namespace Go.Proofs.Ytlgpnofkfpeacaa
open Go.RowKit
set_option linter.unusedVariables false
set_option maxHeartbeats 2000000 in
theorem text_yes (enc : Int) (l : List Int) (A : Option Addr) (n c : Nat) (w : World) (he : encB enc = true) (hn : n ≤ c) (hc : c ≤ maxLen) (hl : Rds w w.heap.size 1 A n (ints l)) :
    Calls Try.prog 16 #[.int .i64 enc, .slice A n c] w (EncPost w (textE enc l)) := by
  have HL := Lib.hid hl.ints_len
  have HEN := Lib.hid he
  have HE4 := Lib.hid (enc_cases he)
  clear he
  unfold maxLen at hc
  go_enter Try.func16, Try.ntmps16
  go_wp2_with (go_at_call 20; refine (isEnc_any _ _).mono ?_; rintro e w' ⟨rfl, rfl⟩; rw [HEN.out])
  go_loop [7] (fun i => ∃ k : Nat, k ≤ n ∧ i = .int .i64 k ∧ (l.take k).all (scalarB enc) = true) (fun i => n - (intOf i).toNat)
  case atStart => exact ⟨0, Nat.zero_le _, rfl, by simp⟩
  case round =>
    obtain ⟨k, hk, rfl, hall⟩ := hrel
    have HALL := Lib.hid hall
    clear hall
    by_cases hlt : k < n
    · obtain ⟨b, off, hkl, hA, hb, hcell⟩ := hl.int_at hlt
      subst hA
      have HT := Lib.hid (take_snoc' l k hkl)
      have HN := Lib.hid (fun hh => textE_range enc l HEN.out k hkl hh)
      obtain ⟨p, hp⟩ : ∃ p, p = l[k] := ⟨_, rfl⟩
      rw [← hp] at hcell HT HN
      clear hp
      cases hs : scalarB enc p
      · have HS := Lib.hid hs
        clear hs
        go_wp2_with (go_at_call 27; refine (isScalar_any _ _ _).mono ?_; rintro e w' ⟨rfl, rfl⟩; rw [HS.out])
        go_ret2
        exact encRet (HN.out HS.out) (Below.refl _ _)
      · have HS := Lib.hid hs
        clear hs
        go_wp2_with (go_at_call 27; refine (isScalar_any _ _ _).mono ?_; rintro e w' ⟨rfl, rfl⟩; rw [HS.out])
        go_round
        case rel => exact ⟨k + 1, by omega, by go_num, by rw [HT.out, List.all_append, HALL.out]; simp [HS.out]⟩
        case measure => simp [intOf]; omega
    · obtain rfl : k = n := by omega
      have HT := Lib.hid (show l.take k = l from List.take_of_length_le (by rw [HL.out]; exact Nat.le_refl _))
      rw [HT.out] at HALL
      clear HT
      go_wp2_with fail
      go_loopw [6, 8] (fun v i wr => ∃ j m : Nat, j ≤ k ∧ i = .int .i64 j ∧ m ≤ 4000 ∧ wr.ownsRow w.heap.size 5 1 v m (byts (flat enc (l.take j))) ∧ Below w.heap.size w wr) (fun _ i _ => k - (intOf i).toNat)
      case atStart => exact ⟨0, 0, Nat.zero_le _, rfl, by omega, own_nil_bytes _ _, Below.refl _ _⟩
      case round =>
        obtain ⟨j, m, hj, rfl, hm, hown, hB⟩ := hrel
        obtain ⟨Av, cv, rfl, hmc, hcv⟩ := own_slice hown
        unfold maxLen at hcv
        by_cases hjk : j < k
        · obtain ⟨b, off, hkl, hA, hb, hcell⟩ := (hl.below hB (Nat.le_refl _)).int_at hjk
          subst hA
          have HT := Lib.hid (take_snoc' l j hkl)
          have hs : scalarB enc l[j] = true := List.all_eq_true.1 HALL.out _ (List.getElem_mem hkl)
          obtain ⟨p, hp⟩ : ∃ p, p = l[j] := ⟨_, rfl⟩
          rw [← hp] at hcell HT hs
          clear hp
          obtain ⟨q1, q2, q3, _⟩ := scalar_bounds hs
          have HS := Lib.hid hs
          have Q3 := Lib.hid q3
          clear hs q3
          have HSN := Lib.hid (flat_snoc enc (l.take j) p)
          go_wp2_with (go_at_call 28; refine (bytesOf_any enc p _ HE4.out q1 q2 Q3.out).mono ?_; rintro e w1 ⟨A1, n1, c1, rfl, hown1, hb1⟩)
          have hlen1 := Lib.hid (own_ints_len hown1)
          have hle : n1 ≤ 4 := by rw [hlen1.out]; exact bytesOf_len _ _
          have hsz := hB.size
          have hsz1 := hb1.size
          have hne : ∀ g, (Value.slice Av m cv).ownBlock = some g → (Value.slice A1 n1 c1).ownBlock ≠ some g := fun g hg he => by
            have h1 := hown.lt g hg
            have h2 := hown1.lt g he
            omega
          have hownA := own_below hown hb1 (Nat.le_refl _)
          have hB1 := hB.trans (hb1.mono hsz)
          have HNE := Lib.hid hne
          clear hown hB hb1 hne
          obtain ⟨L, hL⟩ : ∃ L, L = bytesOf enc p := ⟨_, rfl⟩
          obtain ⟨F, hF⟩ : ∃ F, F = flat enc (l.take j) := ⟨_, rfl⟩
          rw [← hL] at hown1
          rw [← hF] at hownA
          have hLr := bytesOf_range HS.out
          rw [← hL] at hLr
          have HL0 := Lib.hid hL
          have HF0 := Lib.hid hF
          clear hL hF
          have HLR := Lib.hid hLr
          clear hLr
          obtain ⟨wo, hwo⟩ : ∃ wo : Nat, wo = wr.heap.size := ⟨_, rfl⟩
          rw [← hwo] at hown1
          have HWO := Lib.hid hwo
          clear hwo
          go_loopw [6, 10] (fun v i wx => ∃ t m2 : Nat, t ≤ n1 ∧ i = .int .i64 t ∧ m2 ≤ m + t ∧ wx.ownsRow w.heap.size 5 1 v m2 (byts (F ++ L.take t)) ∧ wx.ownsRow wo 3 1 (.slice A1 n1 c1) n1 (ints L) ∧ (∀ g, v.ownBlock = some g → (Value.slice A1 n1 c1).ownBlock ≠ some g) ∧ Below w.heap.size w wx) (fun _ i _ => n1 - (intOf i).toNat)
          case atStart => exact ⟨0, m, Nat.zero_le _, rfl, by omega, by simpa using hownA, hown1, HNE.out, hB1⟩
          case round =>
            obtain ⟨t, m2, ht, rfl, hm2, hv, hr, hne, hBx⟩ := hrel
            obtain ⟨Ax, cx, rfl, hmx, hcx⟩ := own_slice hv
            unfold maxLen at hcx
            have HNE2 := Lib.hid hne
            clear hne
            have hlenL := Lib.hid (own_ints_len hr)
            by_cases htn : t < n1
            · obtain ⟨b2, off2, htl, hA2, hb2, hcell2⟩ := (Rds.of_own hr).int_at htn
              subst hA2
              have HT2 := Lib.hid (take_snoc' L t htl)
              have hq := HLR.out _ (List.getElem_mem htl)
              obtain ⟨q, hq0⟩ : ∃ q, q = L[t] := ⟨_, rfl⟩
              rw [← hq0] at hcell2 HT2 hq
              clear hq0
              obtain ⟨y1, y2⟩ := hq
              have R := Lib.hid (Rds.new wr 1 1 #[.int .u8 q] 5 (byts [q]) rfl rfl)
              have hsx := hBx.size
              go_wp2_with (at_builtin; refine app_bytes (.tmp 45) (.tmp 51) (hv.alloc _) R.out (by omega) (by simp; omega) rfl rfl rfl rfl ?_; intro v3 w3 hown3 hg3 hat3)
              go_roundw
              case rel =>
                refine ⟨t + 1, m2 + 1, by omega, by go_num, by omega, by rw [HT2.out, ← List.append_assoc]; exact hown3, own_kept (hr.alloc _) hg3 HNE2.out, ?_, ?_⟩
                · intro g hg he
                  rcases hat3 with e | e
                  · exact HNE2.out g (by rw [← e]; exact hg) he
                  · rw [hg] at e
                    have := hr.lt g he
                    injection e with e
                    simp at e; omega
                · exact grown_own (hBx.alloc (by omega) _) (hv.alloc _) hg3 (Nat.le_refl _) (by simp; omega)
              case measure => simp [intOf]; omega
            · obtain rfl : t = n1 := by omega
              have hfin : F ++ L.take t = flat enc (l.take (j + 1)) := by rw [HT.out, HSN.out, ← HF0.out, ← HL0.out, List.take_of_length_le (by rw [hlenL.out]; exact Nat.le_refl _)]
              rw [hfin] at hv
              have hlv := Lib.hid (own_byts_len hv)
              clear hfin
              by_cases hbig : m2 ≤ 4000
              · go_wp2
                go_roundw
                case rel => exact ⟨j + 1, m2, by omega, by go_num, hbig, hv, hBx⟩
                case measure => simp [intOf]; omega
              · go_wp2
                go_ret2
                exact encRet (textE_many enc l HEN.out HALL.out (j + 1) (by rw [← hlv.out]; omega)) hBx
        · obtain rfl : j = k := by omega
          have HT := Lib.hid (show l.take j = l from List.take_of_length_le (by rw [HL.out]; exact Nat.le_refl _))
          rw [HT.out] at hown
          have hstr := run_str (c := cv) (Rds.of_own hown)
          have HE := Lib.hid (textE_ok enc l HEN.out HALL.out (by rw [← own_byts_len hown]; exact hm))
          go_wp2
          go_ret2
          exact encRet HE.out hB
theorem text_any (enc : Int) (l : List Int) (A : Option Addr) (n c : Nat) (w : World) (hn : n ≤ c) (hc : c ≤ maxLen) (hl : Rds w w.heap.size 1 A n (ints l)) :
    Calls Try.prog 16 #[.int .i64 enc, .slice A n c] w (EncPost w (textE enc l)) := by
  cases he : encB enc
  · have HE := Lib.hid (textE_no enc l he)
    have HN := Lib.hid he
    clear he
    go_enter Try.func16, Try.ntmps16
    go_wp2_with (go_at_call 20; refine (isEnc_any _ _).mono ?_; rintro e w' ⟨rfl, rfl⟩; rw [HN.out])
    go_ret2
    exact encRet HE.out (Below.refl _ _)
  · exact text_yes enc l A n c w he hn hc hl
end Go.Proofs.Ytlgpnofkfpeacaa
