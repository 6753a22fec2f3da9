/- utf16Roads of the program: walked. -/
import Derived.Test.YtpdcbddofekbcaaGreatSplR
import Derived.Test.YtpdcbddofekbcaaGreatSplI
import Derived.Test.YtpdcbddofekbcaaGreatGI
import Derived.Test.YtpdcbddofekbcaaGreatGE
import Derived.Test.YtpdcbddofekbcaaGreatSetW
import Derived.BigQuiet
namespace Go.Proofs.YtpdcbddofekbcaaGreat
open Go.RowKit
set_option linter.unusedVariables false
/-- turned roads that a callee made, appended: the whole -/
theorem TJ.start {W1 w3 : World} {H1 H2 n m2 k2 c : Nat} {A A2 : Option Addr} {vs0 vs2 : List Value} {ms ls2 : List (List (Int × Int))} {little : Bool} (h1 : w3.ownsRow W1.heap.size 22 1 (.slice A n c) n vs0) (h2 : OwnSls w3 W1.heap.size vs0 ms) (h3 : Below W1.heap.size W1 w3)
    (h4 : ∀ g, (Value.slice A n c).ownBlock = some g → g < H1 ∨ H2 ≤ g) (h5 : Mid w3 H1 H2 A2 m2 k2 vs2 ls2) : TJ W1 w3 H1 H2 (.slice A n c) n vs0 ms A2 m2 k2 vs2 ls2 little 0 0 := by
  refine ⟨?_, ?_, h3, h4, h5⟩
  · rw [List.take_zero, List.append_nil]; exact h1
  · rw [List.take_zero, List.take_zero, List.append_nil, List.map_nil, List.append_nil]; exact h2
theorem TJ.done {W1 w3 : World} {H1 H2 n m2 k2 j : Nat} {o : Value} {A2 : Option Addr} {vs0 vs2 : List Value} {ms ls2 : List (List (Int × Int))} {little : Bool} (h : TJ W1 w3 H1 H2 o n vs0 ms A2 m2 k2 vs2 ls2 little j j) (hj : ls2.length ≤ j) : RoadsVal W1 w3 (ms ++ ls2.map (turnB little)) o := by
  obtain ⟨h1, h2, h3, _⟩ := h
  rw [List.take_of_length_le hj] at h2
  exact .of h1 h2 h3
theorem ofInt_i64 (a : Nat) (ha : a < 9223372036854775808) : (BitVec.ofInt 64 (a : Int)).toNat = a := by
  rw [BitVec.ofInt_natCast, BitVec.toNat_ofNat]; exact Nat.mod_eq_of_lt (by omega)
theorem i64_and_nat (a b : Nat) (ha : a < 9223372036854775808) (hb : b < 9223372036854775808) : bits .and .i64 (a : Int) (b : Int) = ((a &&& b : Nat) : Int) := by
  have hx : a &&& b < 2 ^ 63 := Nat.and_lt_two_pow _ (by omega)
  show IntKind.i64.wrap ((BitVec.ofInt 64 (a : Int) &&& BitVec.ofInt 64 (b : Int)).toNat : Int) = _
  rw [BitVec.toNat_and, ofInt_i64 a ha, ofInt_i64 b hb, IntKind.wrap_i64]
  omega
theorem and1023 (p : Int) (h0 : 0 ≤ p) (h1 : p ≤ 1048575) : bits .and .i64 p 1023 = p % 1024 := by
  obtain ⟨q, rfl⟩ := Int.eq_ofNat_of_zero_le h0
  exact (i64_and_nat q 1023 (by omega) (by omega)).trans (by rw [show (1023 : Nat) = 2 ^ 10 - 1 from rfl, Nat.and_two_pow_sub_one_eq_mod]; omega)
theorem i64_or_nat (a b : Nat) (ha : a < 9223372036854775808) (hb : b < 9223372036854775808) : bits .or .i64 (a : Int) (b : Int) = ((a ||| b : Nat) : Int) := by
  have hx : a ||| b < 2 ^ 63 := Nat.or_lt_two_pow (by omega) (by omega)
  show IntKind.i64.wrap ((BitVec.ofInt 64 (a : Int) ||| BitVec.ofInt 64 (b : Int)).toNat : Int) = _
  rw [BitVec.toNat_or, ofInt_i64 a ha, ofInt_i64 b hb, IntKind.wrap_i64]
  omega
theorem or1023 (p : Int) (h0 : 0 ≤ p) (h1 : p ≤ 1023) : bits .or .i64 (p * 1024) 1023 = p * 1024 + 1023 := by
  obtain ⟨q, rfl⟩ := Int.eq_ofNat_of_zero_le h0
  have e : (q : Int) * 1024 = ((q * 1024 : Nat) : Int) := by omega
  rw [e]
  refine (i64_or_nat (q * 1024) 1023 (by omega) (by omega)).trans ?_
  have h := Nat.two_pow_add_eq_or_of_lt (i := 10) (b := 1023) (by decide) q
  rw [show q * 1024 = 2 ^ 10 * q by omega, ← h]
  omega
def partsW : List (Int × Int) := [(0, 55295), (57344, 65535)]
theorem partsW_at (i : Nat) (hi : i < 2) : ∃ h : i < partsW.length, partsW[i] = (loV i, hiV i) := by
  have hc : i = 0 ∨ i = 1 := by omega
  rcases hc with rfl | rfl <;> exact ⟨by decide, rfl⟩
set_option maxRecDepth 100000 in
set_option maxHeartbeats 4000000 in
theorem utf16Roads_all (little : Bool) (a : List (Int × Int)) (A : Option Addr) (n c : Nat) (w : World) (hn : n ≤ 90000) (hca : Can a) (ha : Rds w w.heap.size 2 A n (rngs a)) :
    Calls Tryz.prog 30 #[.slice A n c, .bool little] w (RoadsP w fun ls => RS ls (codeT little) (ptsV a 3) (cntB (ptsC a 3) 1114112)) := by
  have HCA := Lib.hid hca
  obtain ⟨W1, hW1⟩ : ∃ W1, W1 = w.alloc (.cells #[.int .i64 0, .int .i64 55295, .int .i64 57344, .int .i64 65535] 25) := ⟨_, rfl⟩
  have hsz : W1.heap.size = w.heap.size + 1 := by rw [hW1]; simp
  have HB1 := Lib.hid (show Below w.heap.size w W1 by rw [hW1]; go_grown)
  have HP1 := Lib.hid (show Rds W1 W1.heap.size 2 (some ⟨w.heap.size, 0, none⟩) 2 (rngs partsW) by rw [hsz, hW1]; exact Rds.new w 2 2 _ 25 (rngs partsW) rfl rfl)
  have HA1 := Lib.hid (ha.next HB1.out)
  clear hca ha
  go_enter Tryz.func30, Tryz.ntmps30
  go_wp2_with fail
  rw [← hW1]
  clear hW1
  go_loopw [5, 28] (fun o i wr => ∃ k : Nat, ∃ ls, i = .int .i64 (k : Int) ∧ k ≤ 2 ∧ Hid (RS ls (codeT little) (ptsV a k) (cntB (ptsC a k) 1114112)) ∧ Hid (RoadsVal W1 wr ls o)) (fun _ i _ => (2 - intOf i).toNat)
  case atStart => exact ⟨0, [], by go_num, by omega, Lib.hid (RS.startV little a), Lib.hid (RoadsVal.nil W1)⟩
  case round =>
    obtain ⟨k, ls, rfl, hk5, HRS, HV⟩ := hrel
    by_cases hk : k < 2
    · have HVB := Lib.hid (show Below W1.heap.size W1 wr by obtain ⟨_, _, _, _, _, _, _, _, _, h⟩ := HV.out; exact h)
      obtain ⟨b, off, hlp, hA, hb, q0, q1⟩ := (HP1.out.next HVB.out).rng_at hk
      obtain ⟨hlp2, ep⟩ := partsW_at k hk
      rw [ep] at q0 q1
      injection hA with hA
      injection hA with hb0 hoff0
      subst hb0 hoff0
      rw [Nat.zero_add] at q0 q1
      simp only at q0 q1
      have hk' : (k : Int) < 2 := by omega
      go_wp2_with fail
      have HW := Lib.hid (show Below wr.heap.size wr (wr.alloc (.cells #[.int .i64 (loV k), .int .i64 (hiV k)] 25)) by go_grown)
      have hwz : (wr.alloc (.cells #[.int .i64 (loV k), .int .i64 (hiV k)] 25)).heap.size = wr.heap.size + 1 := by simp
      have hlh := loV_hiV k
      refine (within92 a (loV k) (hiV k) A n c _ hn HCA.out hlh.1 hlh.2.2 hlh.2.1 ((HA1.out.next HVB.out).next HW.out)).mono ?_
      rintro e w1 ⟨out, hset, A2, n2, c2, rfl, hown, hbl⟩
      have HSET := Lib.hid hset
      have HW1 := Lib.hid (HW.out.trans (hbl.mono (by rw [hwz]; omega)))
      have HV1 := Lib.hid (HV.out.next HW1.out)
      have HO1 := Lib.hid (own_mono hown (Nat.zero_le _))
      have hn2 : n2 = out.length := by have := (Rds.of_own hown).rngs_len; omega
      have HN2 := Lib.hid hn2
      clear hset hown hbl HW HW1 hwz q0 q1 HV HVB hn2
      go_wp2_with fail
      go_loopw [5, 39] (fun o i w3 => ∃ j : Nat, ∃ ms, i = .int .i64 (j : Int) ∧ j ≤ n2 ∧ Hid (RS ms (codeT little) (fun p => ptsV a k p ∨ mem (out.take j) p) (cntB (ptsC a k) 1114112 + countL (out.take j))) ∧ Hid (RoadsVal W1 w3 ms o) ∧ Hid (w3.ownsRow 0 25 2 (.slice A2 n2 c2) n2 (rngs out))) (fun _ i _ => (n2 - intOf i).toNat)
      case atStart => exact ⟨0, ls, by go_num, by omega, Lib.hid (HRS.out.congr (fun p => by simp [mem]) (by simp [countL])), HV1, HO1⟩
      case round =>
        obtain ⟨j, ms, rfl, hj, HRM, HVm, HOm⟩ := hrel
        by_cases hjn : j < n2
        · obtain ⟨b1, off1, hl1, hA2, hb1, hc1, hd1⟩ := (Rds.of_own HOm.out).rng_at hjn
          have hout := HSET.out.1.1 _ (List.getElem_mem hl1)
          have hok := (okR_iff _).1 hout
          have hlo := ((HSET.out.2 out[j].1).1 ⟨out[j], List.getElem_mem hl1, Int.le_refl _, hok.2.1⟩).2.1
          have hhi := ((HSET.out.2 out[j].2).1 ⟨out[j], List.getElem_mem hl1, hok.2.1, Int.le_refl _⟩).2.2
          have hh16 : hiV k ≤ 65535 := by unfold hiV; rcases (show k = 0 ∨ k = 1 by omega) with rfl | rfl <;> decide
          have HRG := Lib.hid (fun (ms2 : List (List (Int × Int))) (h : RS ms2 (codeT little) (fun p => out[j].1 ≤ p ∧ p ≤ out[j].2) (out[j].2 - out[j].1 + 1)) => HRM.out.range (codeT_inj little) HSET.out.1 hl1 h fun p h1 h2 => ptsV_apart (by omega) h1 ((HSET.out.2 p).1 h2).2.1)
          obtain ⟨p, hp⟩ : ∃ p, p = out[j] := ⟨_, rfl⟩
          rw [← hp] at hc1 hd1 hok hlo hhi HRG
          clear hp hout
          obtain ⟨x, y⟩ := p
          simp only at hc1 hd1 hok hlo hhi
          subst hA2
          have hjn' : (j : Int) < (n2 : Int) := by omega
          have hn2b : n2 ≤ maxLen := by obtain ⟨_, _, _, q1, q2⟩ := own_slice HOm.out; omega
          unfold maxLen at hn2b
          obtain ⟨ho0, ho1, ho2⟩ := hok
          go_wp2_with fail
          have HW2 := Lib.hid (show Below wr.heap.size wr (wr.alloc (.cells #[.int .i64 x, .int .i64 y] 25)) by go_grown)
          have hw2 : wr.heap.size ≤ (wr.alloc (.cells #[.int .i64 x, .int .i64 y] 25)).heap.size := HW2.out.size
          refine (roads_2 x y _ ho0 ho1 (by omega)).mono ?_
          rintro e w2 ⟨ls2, HR2, A3, m3, k3, us, rfl, p1, p2, p3, p4, p5⟩
          have HW3 := Lib.hid (HW2.out.trans (p5.mono hw2))
          have HMID := Lib.hid (show Mid w2 wr.heap.size w2.heap.size A3 m3 k3 us ls2 from ⟨own_mono p3.out hw2, p4.out.mono hw2, fun g hg => (p3.out.lt g hg).2, Nat.le_refl _⟩)
          obtain ⟨A4, n4, c4, vs, rfl, r1, r2, r3, r4, r5⟩ := HVm.out
          have HF := Lib.hid (r4.out.fresh2 HMID.out.2.1)
          have HTJ := Lib.hid (TJ.start (little := little) (own_below r3.out HW3.out (Nat.le_refl _)) (r4.out.below HW3.out) (r5.trans (HW3.out.mono r5.size)) (fun g hg => .inl (r3.out.lt g hg).2) HMID.out)
          have HO2 := Lib.hid (own_below HOm.out HW3.out (Nat.le_refl _))
          have HLT := Lib.hid (fun g (hg : (Value.slice (some ⟨b1, off1, none⟩) n2 c2).ownBlock = some g) => (HOm.out.lt g hg).2)
          have HWZ := Lib.hid (r5.size)
          have HL3 := Lib.hid (own_count p3.out p4.out)
          have hm3 : n4 + m3 ≤ 4000000 := by
            have h1 := own_count r3.out r4.out
            have h2 := own_count p3.out p4.out
            have h3 := HRM.out.len
            have h4 := HR2.out.len
            have h5 := countL_take_le HSET.out.1 j
            have h6 := cntB_le (ptsC a k) 1114112
            omega
          obtain ⟨W0, hW0⟩ : ∃ W0, W0 = wr := ⟨_, rfl⟩
          rw [← hW0] at HTJ HLT HWZ
          clear hW0 p1 p2 p3 p4 p5 HMID hw2 HW2
          go_wp2_with fail
          go_loopw [5, 49] (fun o i w3 => ∃ j2 n5 : Nat, i = .int .i64 (j2 : Int) ∧ j2 ≤ m3 ∧ n5 = n4 + j2 ∧ Hid (TJ W1 w3 W0.heap.size w2.heap.size o n5 vs ms A3 m3 k3 us ls2 little j2 j2) ∧ Hid (w3.ownsRow 0 25 2 (.slice (some ⟨b1, off1, none⟩) n2 c2) n2 (rngs out))) (fun _ i _ => (m3 - intOf i).toNat)
          case atStart => exact ⟨0, n4, by go_num, by omega, by omega, HTJ, HO2⟩
          case round =>
            obtain ⟨j2, n5, rfl, hj2, hn5, HT, HOj⟩ := hrel
            obtain ⟨A6, c6, hv6, q1, q2⟩ := own_slice HT.out.1
            subst hv6
            have hn5b : n5 ≤ 4000000 := by omega
            have HN5 := Lib.hid hn5
            clear hn5
            by_cases hjm : j2 < m3
            · have HM := HT.out.2.2.2.2
              obtain ⟨b3, o3, hl3, hA3, hb3, hc3⟩ := (Rds.of_own HM.1).at1 hjm
              have hl4 : j2 < ls2.length := by have := HL3.out; omega
              obtain ⟨hl5, et⟩ := turnJ_at little ls2 hl4
              obtain ⟨n7, hr3⟩ := HM.2.1.2.1 j2 hl3 hl5
              rw [et] at hr3
              have hrl := (HR2.out.shape _ (List.getElem_mem hl4)).1
              have HR3 := Lib.hid hr3
              obtain ⟨A7, c7, hv7, q3, q4⟩ := own_slice hr3
              rw [hv7] at hc3 hr3
              have HR4 := Lib.hid hr3
              have HV7 := Lib.hid hv7
              have hjm' : (j2 : Int) < (m3 : Int) := by omega
              subst hA3
              clear hr3 hv7 HM et
              go_wp2_with fail
              refine (turn_all little ls2[j2] W0.heap.size n7 c7 A7 wr (.inl hrl) HR4.out).mono ?_
              rintro e w4 ⟨rfl, ht1, ht2⟩
              have HT4 := Lib.hid (HT.out.turn HWZ.out hl3 hl4 HF.out (by rw [HV7.out]; exact ht1) (by rw [HV7.out]; exact HR4.out) (by rw [HV7.out]; exact ht2))
              have HO4 := Lib.hid (own_kept HOj.out ht2 fun g h1 h2 => by
                have a := HLT.out g h2
                have b := HR4.out.lt g h1
                omega)
              have HT1 := Lib.hid ht1
              clear ht1 ht2
              go_wp2_with (at_builtin; refine app_roads (.tmp 53) (.tmp 57) (base := W1.heap.size) (xs := vs ++ us.take j2) (n := n5) (HT4.out.1.alloc _) (Rds.new w4 1 1 #[.slice A7 n7 c7] 22 [.slice A7 n7 c7] rfl rfl) (by simp [Value.oneCell']) (by omega) (by have := HT4.out.2.2.1.size; simp; omega) rfl rfl rfl rfl ?_; intro v5 w5 hown5 hg5 hat5)
              have HT5 := Lib.hid (HT4.out.push HWZ.out hl3 hl4 HF.out (by rw [HV7.out]; exact HT1.out) (.cells #[.slice A7 n7 c7] 22) (by rw [HV7.out]; exact hown5) hg5 hat5)
              have HO5 := Lib.hid (own_kept (HO4.out.alloc (.cells #[.slice A7 n7 c7] 22)) hg5 (own_ne_type (HT4.out.1.alloc (.cells #[.slice A7 n7 c7] 22)) (HO4.out.alloc (.cells #[.slice A7 n7 c7] 22)) (by decide)))
              clear hown5 hg5 hat5
              exact ⟨⟨j2 + 1, n5 + 1, by go_num, by omega, by have := HN5.out; omega, HT5, HO5⟩, by simp only [intOf]; omega⟩
            · have hjm' : ¬ (j2 : Int) < (m3 : Int) := by omega
              have HX := Lib.hid (HRG.out (ls2.map (turnB little)) (RS.turnT (bmp_rs (by omega) HR2.out) little))
              have HZ := Lib.hid (show RoadsVal W1 wr (ms ++ ls2.map (turnB little)) (.slice A6 n5 c6) from by
                have e : j2 = m3 := by omega
                have h := HT.out
                exact TJ.done h (by have := HL3.out; omega))
              go_wp2_with fail
              exact ⟨⟨j + 1, _, by go_num, by omega, HX, HZ, HOj⟩, by simp only [intOf]; omega⟩
        · have hjn' : ¬ (j : Int) < (n2 : Int) := by omega
          have HFIN := Lib.hid (show RS ms (codeT little) (ptsV a (k + 1)) (cntB (ptsC a (k + 1)) 1114112) from by
            have h := HRM.out
            rw [List.take_of_length_le (by have := HN2.out; omega)] at h
            exact RS.partV (by omega) HSET.out rfl h)
          go_wp2_with fail
          exact ⟨⟨k + 1, ms, by go_num, by omega, HFIN, HVm⟩, by simp only [intOf]; omega⟩
    · have e : k = 2 := by omega
      subst e
      have HVB := Lib.hid (show Below W1.heap.size W1 wr by obtain ⟨_, _, _, _, _, _, _, _, _, h⟩ := HV.out; exact h)
      go_wp2_with fail
      refine (within92 a 65536 1114111 A n c _ hn HCA.out (by decide) (by decide) (by decide) (HA1.out.next HVB.out)).mono ?_
      rintro e w1 ⟨out, hset, A2, n2, c2, rfl, hown, hbl⟩
      have HSET := Lib.hid hset
      have HV1 := Lib.hid (HV.out.next hbl)
      have HO1 := Lib.hid (own_mono hown (Nat.zero_le _))
      have hn2 : n2 = out.length := by have := (Rds.of_own hown).rngs_len; omega
      have HN2 := Lib.hid hn2
      clear hset hown hbl HV HVB hn2
      go_wp2_with fail
      go_loopw [5, 65] (fun o i w3 => ∃ j : Nat, ∃ ms, i = .int .i64 (j : Int) ∧ j ≤ n2 ∧ Hid (RS ms (codeT little) (fun p => ptsV a 2 p ∨ mem (out.take j) p) (cntB (ptsC a 2) 1114112 + countL (out.take j))) ∧ Hid (RoadsVal W1 w3 ms o) ∧ Hid (w3.ownsRow 0 25 2 (.slice A2 n2 c2) n2 (rngs out))) (fun _ i _ => (n2 - intOf i).toNat)
      case atStart => exact ⟨0, ls, by go_num, by omega, Lib.hid (HRS.out.congr (fun p => by simp [mem]) (by simp [countL])), HV1, HO1⟩
      case round =>
        obtain ⟨j, ms, rfl, hj, HRM, HVm, HOm⟩ := hrel
        by_cases hjn : j < n2
        · obtain ⟨b1, off1, hl1, hA2, hb1, hc1, hd1⟩ := (Rds.of_own HOm.out).rng_at hjn
          have hok := (okR_iff _).1 (HSET.out.1.1 _ (List.getElem_mem hl1))
          have hlo := ((HSET.out.2 out[j].1).1 ⟨out[j], List.getElem_mem hl1, Int.le_refl _, hok.2.1⟩).2.1
          have HRG := Lib.hid (fun (ms2 : List (List (Int × Int))) (h : RS ms2 (codeT little) (fun p => out[j].1 ≤ p ∧ p ≤ out[j].2) (out[j].2 - out[j].1 + 1)) => HRM.out.range (codeT_inj little) HSET.out.1 hl1 h fun p h1 h2 => ptsV_apart (by omega) h1 ((HSET.out.2 p).1 h2).2.1)
          obtain ⟨p, hp⟩ : ∃ p, p = out[j] := ⟨_, rfl⟩
          rw [← hp] at hc1 hd1 hok hlo HRG
          clear hp
          obtain ⟨x, y⟩ := p
          simp only at hc1 hd1 hok hlo
          subst hA2
          have hjn' : (j : Int) < (n2 : Int) := by omega
          have hn2b : n2 ≤ maxLen := by obtain ⟨_, _, _, q1, q2⟩ := own_slice HOm.out; omega
          unfold maxLen at hn2b
          obtain ⟨ho0, ho1, ho2⟩ := hok
          obtain ⟨f, rfl⟩ : ∃ f, x = f + 65536 := ⟨x - 65536, by omega⟩
          obtain ⟨t, rfl⟩ : ∃ t, y = t + 65536 := ⟨y - 65536, by omega⟩
          have hft : 0 ≤ f ∧ f ≤ t ∧ t ≤ 1048575 := ⟨by omega, by omega, by omega⟩
          obtain ⟨hf0, hft1, ht2⟩ := hft
          go_wp2_with fail
          have hw1 : IntKind.i64.wrap (f + 65536 - 65536) = f := by rw [IntKind.wrap_i64]; omega
          have hw2 : IntKind.i64.wrap (t + 65536 - 65536) = t := by rw [IntKind.wrap_i64]; omega
          go_quiet (fail)
          clear hw1 hw2
          have HW2 := Lib.hid (below_drewN (show Below wr.heap.size wr (wr.alloc (.cells #[.int .i64 (f + 65536), .int .i64 (t + 65536)] 25)) by go_grown) nq)
          clear ho0 ho1 ho2 hlo hc1 hd1
          generalize ((wr.alloc (.cells #[.int .i64 (f + 65536), .int .i64 (t + 65536)] 25)).drewN nq) = W2 at *
          have HVW := Lib.hid (HVm.out.next HW2.out)
          have HOW := Lib.hid (own_below HOm.out HW2.out (Nat.le_refl _))
          have hlen := countL_take_le HSET.out.1 j
          clear HVm HOm HW2
          go_wp2_with fail
          go_loopw [5, 16] (fun o pv w3 => ∃ p : Int, ∃ ms5, pv = .int .i64 p ∧ f ≤ p ∧ p ≤ t + 1 ∧ Hid (RS ms5 (codeT little) (fun c => f + 65536 ≤ c ∧ c < 65536 + p) (65536 + p - (f + 65536))) ∧ Hid (RoadsVal W1 w3 (ms ++ ms5) o) ∧ Hid (w3.ownsRow 0 25 2 (.slice (some ⟨b1, off1, none⟩) n2 c2) n2 (rngs out))) (fun _ pv _ => (t + 1 - intOf pv).toNat)
          case atStart => exact ⟨f, [], by go_num, by omega, by omega, Lib.hid (RS.first little _ _ (by omega)), by rw [List.append_nil]; exact HVW, HOW⟩
          case round =>
            obtain ⟨p, ms5, rfl, hp0, hp1, HR5, HV5, HO5⟩ := hrel
            have hp00 : 0 ≤ p := by omega
            by_cases hpt : p ≤ t
            · obtain ⟨l0, HL0⟩ : ∃ l0, (if p / 1024 * 1024 + 1023 < t then p / 1024 * 1024 + 1023 else t) = l0 := ⟨_, rfl⟩
              have hl00 : p ≤ l0 ∧ l0 ≤ t ∧ l0 / 1024 = p / 1024 := by split at HL0 <;> omega
              obtain ⟨hl00, hl01, hl02⟩ := hl00
              have HL2 : l0 % 1024 = 1023 ∨ l0 = t := by split at HL0 <;> omega
              have hor : bits .or .i64 (p / 1024 * 1024) 1023 = p / 1024 * 1024 + 1023 := or1023 _ (by omega) (by omega)
              go_upto_region 24 with (fail)
              clear hor
              have HL3 := Lib.hid HL0
              clear HL0
              obtain ⟨tt, htt⟩ : ∃ tt, tt = decide (p % 1024 = 0 ∧ l0 % 1024 = 1023) := ⟨_, rfl⟩
              have HTT := Lib.hid htt
              clear htt
              go_cut [94] from 76 to 137 (fun z wc => z = .bool tt ∧ wr = wc)
              case first =>
                have ha1 : bits .and .i64 p 1023 = p % 1024 := and1023 _ (by omega) (by omega)
                have ha2 : bits .and .i64 l0 1023 = l0 % 1024 := and1023 _ (by omega) (by omega)
                by_cases hc1 : p % 1024 = 0
                · by_cases hc2 : l0 % 1024 = 1023
                  · have e : tt = true := by rw [HTT.out]; exact decide_eq_true ⟨hc1, hc2⟩
                    subst e
                    go_wp2_with fail
                    go_meet
                    exact ⟨rfl, rfl⟩
                  · have e : tt = false := by rw [HTT.out]; exact decide_eq_false fun h => hc2 h.2
                    subst e
                    have hc2b : (l0 % 1024 == 1023) = false := by simpa using hc2
                    go_wp2_with fail
                    go_meet
                    exact ⟨rfl, rfl⟩
                · have e : tt = false := by rw [HTT.out]; exact decide_eq_false fun h => hc1 h.1
                  subst e
                  have hc1b : (p % 1024 == 0) = false := by simpa using hc1
                  go_wp2_with fail
                  go_meet
                  exact ⟨rfl, rfl⟩
              case rest =>
              obtain ⟨rfl, rfl⟩ := hcut
              go_upto_if 94 with (fail)
              go_cut [18, 19] from 94 to 137 (fun a b wc => ∃ l tp : Int, a = .int .i64 l ∧ b = .int .i64 tp ∧ wr = wc ∧ p ≤ l ∧ l ≤ t ∧ ((p % 1024 = 0 ∧ l % 1024 = 1023 ∧ tp = l / 1024) ∨ (tp = p / 1024 ∧ l / 1024 = p / 1024)))
              case first =>
                cases tt
                · go_wp2_with fail
                  go_meet
                  exact ⟨l0, p / 1024, rfl, rfl, rfl, by omega, by omega, .inr ⟨rfl, by omega⟩⟩
                · have hc := of_decide_eq_true HTT.out.symm
                  obtain ⟨hc1, hc2⟩ := hc
                  go_wp2_with fail
                  obtain ⟨W0, hW0⟩ : ∃ W0, W0 = wr := ⟨_, rfl⟩
                  rw [← hW0]
                  have HW0 := Lib.hid hW0
                  clear hW0
                  go_loopw [18] (fun v w2 => ∃ z : Int, v = .int .i64 z ∧ l0 ≤ z ∧ z ≤ t ∧ (z - l0) % 1024 = 0 ∧ W0 = w2) (fun v _ => (t - intOf v).toNat)
                  case atStart => exact ⟨l0, by go_num, by omega, by omega, by omega, by first | rfl | trivial⟩
                  case round =>
                    obtain ⟨z, rfl, hz0, hz1, hz2, rfl⟩ := hrel
                    by_cases hzt : z + 1024 ≤ t
                    · go_wp2_with fail
                      go_roundw
                      case rel => exact ⟨z + 1024, by go_num, by omega, by omega, by omega, by first | rfl | trivial⟩
                      case measure => simp only [intOf]; omega
                    · go_wp2_with fail
                      go_meet
                      exact ⟨z, z / 1024, rfl, rfl, HW0.out.symm, by omega, by omega, .inl ⟨by omega, by omega, rfl⟩⟩
              case rest =>
                obtain ⟨l, tp, rfl, rfl, rfl, hl0, hl1, hlw⟩ := hcut
                clear HL3 HL2 hl00 hl01 hl02 HTT
                have HLW := Lib.hid hlw
                have htp : p / 1024 ≤ tp ∧ tp ≤ 1023 := by omega
                obtain ⟨htp0, htp1⟩ := htp
                have hplm : p % 1024 ≤ l % 1024 := by omega
                clear hlw
                go_wp2_with fail
                refine (roads_2 (55296 + p / 1024) (55296 + tp) _ (by omega) (by omega) (by omega)).mono ?_
                rintro e w2 ⟨xs, HX, A3, m3, k3, us, rfl, p1, p2, p3, p4, p5⟩
                obtain ⟨A4, n4, c4, vs, rfl, r1, r2, r3, r4, r5⟩ := HV5.out
                have HMX := Lib.hid (show Mid w2 wr.heap.size w2.heap.size A3 m3 k3 us xs from ⟨p3.out, p4.out, fun g hg => (p3.out.lt g hg).2, Nat.le_refl _⟩)
                have HPJ := Lib.hid (PJ.of r3.out r4.out r5 p5)
                have HOX := Lib.hid (own_below HO5.out p5 (Nat.le_refl _))
                have HLX := Lib.hid (own_count p3.out p4.out)
                have hmx : m3 ≤ 1024 := by
                  have h1 := HLX.out
                  have h2 := HX.out.len
                  omega
                have hn4 : n4 ≤ 3300000 := by
                  have h1 := own_count r3.out r4.out
                  have h2 := HRM.out.len
                  have h3 := HR5.out.len
                  have h4 := cntB_le (ptsC a 2) 1114112
                  rw [List.length_append] at h1
                  omega
                obtain ⟨H1, hH1⟩ : ∃ H1, H1 = wr.heap.size := ⟨_, rfl⟩
                obtain ⟨H2, hH2⟩ : ∃ H2, H2 = w2.heap.size := ⟨_, rfl⟩
                rw [← hH1] at HMX HPJ
                rw [← hH2] at HMX HPJ
                clear p1 p2 p3 p4 p5 r1 r2 r3 r4 r5 HV5 HO5 hH1 hH2
                go_wp2_with fail
                go_loopw [5, 109] (fun o i w3 => ∃ i7 n7 : Nat, ∃ z vs7, i = .int .i64 (i7 : Int) ∧ i7 ≤ m3 ∧ n7 ≤ n4 + 1024 * i7 ∧ Hid (ZI xs i7 (ENum 256 0 0 1 (56320 + p % 1024) (56320 + l % 1024)) (l % 1024 - p % 1024 + 1) z) ∧ Hid (PJ W1 w3 H1 H2 H1 H2 o n7 vs7 ((ms ++ ms5) ++ z.map (turnB little))) ∧ Hid (Mid w3 H1 H2 A3 m3 k3 us xs) ∧ Hid (w3.ownsRow 0 25 2 (.slice (some ⟨b1, off1, none⟩) n2 c2) n2 (rngs out))) (fun _ i _ => (m3 - intOf i).toNat)
                case atStart => exact ⟨0, n4, [], vs, by go_num, by omega, by omega, Lib.hid (ZI.start _ _ _), by rw [List.map_nil, List.append_nil]; exact HPJ, HMX, HOX⟩
                case round =>
                  obtain ⟨i7, n7, z, vs7, rfl, hi7, hn7, HZ, HP7, HM7, HO7⟩ := hrel
                  by_cases hi7m : i7 < m3
                  · obtain ⟨b3, o3, hl3, hA3, hb3, hc3⟩ := (Rds.of_own HM7.out.1).at1 hi7m
                    have hl4 : i7 < xs.length := by have := HLX.out; omega
                    obtain ⟨n9, hr3⟩ := HM7.out.2.1.2.1 i7 hl3 hl4
                    have HR3 := Lib.hid hr3
                    obtain ⟨A9, c9, hv9, q3, q4⟩ := own_slice hr3
                    rw [hv9] at hc3
                    have HV9 := Lib.hid hv9
                    have hi7' : (i7 : Int) < (m3 : Int) := by omega
                    subst hA3
                    clear hr3 hv9
                    have ha1 : bits .and .i64 p 1023 = p % 1024 := and1023 _ (by omega) (by omega)
                    have ha2 : bits .and .i64 l 1023 = l % 1024 := and1023 _ (by omega) (by omega)
                    go_wp2_with fail
                    clear ha1 ha2
                    refine (roads_2 (56320 + p % 1024) (56320 + l % 1024) _ (by omega) (by omega) (by omega)).mono ?_
                    rintro e w5 ⟨ys, HY, B5, m5, k5, us5, rfl, p1, p2, p3, p4, p5⟩
                    have HMY := Lib.hid (show Mid w5 wr.heap.size w5.heap.size B5 m5 k5 us5 ys from ⟨p3.out, p4.out, fun g hg => (p3.out.lt g hg).2, Nat.le_refl _⟩)
                    have HPJ8 := Lib.hid (HP7.out.shift p5)
                    have HMX8 := Lib.hid (HM7.out.below p5)
                    have HO8 := Lib.hid (own_below HO7.out p5 (Nat.le_refl _))
                    have HLY := Lib.hid (own_count p3.out p4.out)
                    have HRX := Lib.hid (own_below HR3.out p5 (Nat.le_refl _))
                    have hmy : m5 ≤ 1024 := by
                      have h1 := HLY.out
                      have h2 := HY.out.len
                      omega
                    obtain ⟨H3, hH3⟩ : ∃ H3, H3 = wr.heap.size := ⟨_, rfl⟩
                    obtain ⟨H4, hH4⟩ : ∃ H4, H4 = w5.heap.size := ⟨_, rfl⟩
                    rw [← hH3] at HMY HPJ8
                    rw [← hH4] at HMY HPJ8
                    clear p1 p2 p3 p4 p5 HP7 HM7 HO7 hH3 hH4 HR3 hc3 hb3 hb1
                    go_wp2_with fail
                    go_loopw [5, 121] (fun o i w3 => ∃ i8 n8 : Nat, ∃ vs8, i = .int .i64 (i8 : Int) ∧ i8 ≤ m5 ∧ n8 ≤ n4 + 1024 * i7 + i8 ∧ Hid (PJ W1 w3 H1 H2 H3 H4 o n8 vs8 ((ms ++ ms5) ++ (z ++ (ys.take i8).map fun y => xs[i7] ++ y).map (turnB little))) ∧ Hid (Mid w3 H1 H2 (some ⟨b3, o3, none⟩) m3 k3 us xs) ∧ Hid (Mid w3 H3 H4 B5 m5 k5 us5 ys) ∧ Hid (w3.ownsRow H1 25 2 us[i7] n9 (rngs xs[i7])) ∧ Hid (w3.ownsRow 0 25 2 (.slice (some ⟨b1, off1, none⟩) n2 c2) n2 (rngs out))) (fun _ i _ => (m5 - intOf i).toNat)
                    case atStart => exact ⟨0, n7, vs7, by go_num, by omega, by omega, by rw [List.take_zero, List.map_nil, List.append_nil]; exact HPJ8, HMX8, HMY, HRX, HO8⟩
                    case round =>
                      obtain ⟨i8, n8, vs8, rfl, hi8, hn8, HP, HMa, HMb, HRa, HOa⟩ := hrel
                      obtain ⟨A6, c6, hv6, q1, q2⟩ := own_slice HP.out.1
                      subst hv6
                      by_cases hi8m : i8 < m5
                      · obtain ⟨b8, o8, hl8, hB5, hb8, hc8⟩ := (Rds.of_own HMb.out.1).at1 hi8m
                        have hl88 : i8 < ys.length := by have := HLY.out; omega
                        obtain ⟨n10, hr8⟩ := HMb.out.2.1.2.1 i8 hl8 hl88
                        have HRb := Lib.hid hr8
                        obtain ⟨A10, c10, hv10, q5, q6⟩ := own_slice hr8
                        rw [hv10] at hc8
                        have HV10 := Lib.hid hv10
                        have hi8' : (i8 : Int) < (m5 : Int) := by omega
                        have hlx := (HX.out.shape _ (List.getElem_mem hl4)).1
                        have hly := (HY.out.shape _ (List.getElem_mem hl88)).1
                        have HLXY := Lib.hid (show (xs[i7] ++ ys[i8]).length = 4 by rw [List.length_append, hlx, hly])
                        have HTOT := Lib.hid (show total [xs[i7], ys[i8]] ≤ 1000000 by have := HLXY.out; simp only [total, List.flatten_cons, List.flatten_nil, List.append_nil]; omega)
                        have HFL := Lib.hid (show [xs[i7], ys[i8]].flatten = xs[i7] ++ ys[i8] by simp)
                        have HSL := Lib.hid (show Sls (wr.alloc (.cells #[.slice A9 n9 c9, .slice A10 n10 c10] 22)) (wr.alloc (.cells #[.slice A9 n9 c9, .slice A10 n10 c10] 22)).heap.size [.slice A9 n9 c9, .slice A10 n10 c10] [xs[i7], ys[i8]] from by rw [← HV9.out, ← HV10.out]; exact slsPair HRa.out HRb.out _)
                        have HRD := Lib.hid (show Rds (wr.alloc (.cells #[.slice A9 n9 c9, .slice A10 n10 c10] 22)) (wr.alloc (.cells #[.slice A9 n9 c9, .slice A10 n10 c10] 22)).heap.size 1 (some ⟨wr.heap.size, 0, none⟩) 2 [.slice A9 n9 c9, .slice A10 n10 c10] from by
                          have e : (wr.alloc (.cells #[.slice A9 n9 c9, .slice A10 n10 c10] 22)).heap.size = wr.heap.size + 1 := by simp
                          rw [e]; exact Rds.new wr 1 2 _ 22 _ rfl rfl)
                        have HBA := Lib.hid (show Below wr.heap.size wr (wr.alloc (.cells #[.slice A9 n9 c9, .slice A10 n10 c10] 22)) by go_grown)
                        subst hB5
                        clear hr8 hv10 hlx hly
                        go_wp2_with fail
                        refine (concat86 [xs[i7], ys[i8]] [.slice A9 n9 c9, .slice A10 n10 c10] _ 2 2 _ (by omega) HRD.out HSL.out HTOT.out).mono ?_
                        rintro e w7 ⟨A11, n11, c11, rfl, hown7, hbl7⟩
                        rw [HFL.out] at hown7
                        have hz7 : (wr.alloc (.cells #[.slice A9 n9 c9, .slice A10 n10 c10] 22)).heap.size = wr.heap.size + 1 := by simp
                        have HO7 := Lib.hid (own_mono hown7 (by rw [hz7]; exact Nat.le_succ _))
                        have HB7 := Lib.hid (HBA.out.trans (hbl7.mono (by rw [hz7]; exact Nat.le_succ _)))
                        clear hown7 hbl7 hz7
                        go_wp2_with fail
                        refine (turn_all little (xs[i7] ++ ys[i8]) wr.heap.size n11 c11 A11 w7 (.inr HLXY.out) HO7.out).mono ?_
                        rintro e w8 ⟨rfl, ht1, ht2⟩
                        have HB8 := Lib.hid (grown_own HB7.out HO7.out ht2 (Nat.le_refl _) HB7.out.size)
                        have HT1 := Lib.hid ht1
                        clear ht1 ht2
                        have HP8 := Lib.hid (HP.out.below HB8.out)
                        go_wp2_with (at_builtin; refine app_roads (.tmp 125) (.tmp 132) (base := W1.heap.size) (xs := vs8) (n := n8) (HP8.out.1.alloc _) (Rds.new w8 1 1 #[.slice A11 n11 c11] 22 [.slice A11 n11 c11] rfl rfl) (by simp [Value.oneCell']) (by omega) (by have := HP8.out.2.2.1.size; simp; omega) rfl rfl rfl rfl ?_; intro v9 w9 hown9 hg9 hat9)
                        have HMid1 := HMa.out.2.2.2
                        have HMid2 := HMb.out.2.2.2
                        have HP9 := Lib.hid (HP.out.push HB8.out HT1.out HMid1 HMid2 (.cells #[.slice A11 n11 c11] 22) hown9 hg9 hat9)
                        have HMa9 := Lib.hid (HP.out.mid1 HB8.out (.cells #[.slice A11 n11 c11] 22) hg9 HMa.out)
                        have HMb9 := Lib.hid (HP.out.mid2 HB8.out (.cells #[.slice A11 n11 c11] 22) hg9 HMb.out)
                        have HRa9 := Lib.hid (HP.out.row HB8.out (.cells #[.slice A11 n11 c11] 22) hg9 HRa.out)
                        have HOa9 := Lib.hid (HP.out.row HB8.out (.cells #[.slice A11 n11 c11] 22) hg9 HOa.out)
                        have HLS := Lib.hid (show ((ms ++ ms5) ++ (z ++ (ys.take i8).map fun y => xs[i7] ++ y).map (turnB little)) ++ [if little = true then turnL (xs[i7] ++ ys[i8]) else xs[i7] ++ ys[i8]] = (ms ++ ms5) ++ (z ++ (ys.take (i8 + 1)).map fun y => xs[i7] ++ y).map (turnB little) from by
                          rw [List.take_succ_eq_append_getElem hl88]
                          simp only [List.map_append, List.append_assoc, List.map_cons, List.map_nil, turnB])
                        rw [HLS.out] at HP9
                        clear hown9 hg9 hat9
                        exact ⟨⟨i8 + 1, n8 + 1, _, by go_num, by omega, by omega, HP9, HMa9, HMb9, HRa9, HOa9⟩, by simp only [intOf]; omega⟩
                      · have hi8' : ¬ (i8 : Int) < (m5 : Int) := by omega
                        have HZ8 := Lib.hid (show ZI xs (i7 + 1) (ENum 256 0 0 1 (56320 + p % 1024) (56320 + l % 1024)) (l % 1024 - p % 1024 + 1) (z ++ (ys.take i8).map fun y => xs[i7] ++ y) from by
                          have e : ys.take i8 = ys := List.take_of_length_le (by have := HLY.out; omega)
                          rw [e]
                          have h := HY.out
                          rw [show (56320 + l % 1024 - (56320 + p % 1024) + 1 : Int) = l % 1024 - p % 1024 + 1 by omega] at h
                          exact HZ.out.step HX.out.shape h hl4)
                        have HPB := Lib.hid HP.out.back
                        go_wp2_with fail
                        exact ⟨⟨i7 + 1, n8, _, vs8, by go_num, by omega, by omega, HZ8, HPB, HMa, HOa⟩, by simp only [intOf]; omega⟩
                  · have hi7' : ¬ (i7 : Int) < (m3 : Int) := by omega
                    have HSP := Lib.hid (show RS (ms5 ++ z.map (turnB little)) (codeT little) (fun c => f + 65536 ≤ c ∧ c < 65536 + (l + 1)) (65536 + (l + 1) - (f + 65536)) from by
                      have h := HZ.out.done HX.out (by have := HLX.out; omega)
                      have h2 := HLW.out
                      rw [show (55296 + tp - (55296 + p / 1024) + 1 : Int) = tp - p / 1024 + 1 by omega] at h
                      have g := pairsZ (p := p) (last := l) hp00 hl0 h (by omega) (by omega)
                      exact RS.next HR5.out (g.turnT little) (by omega) hl0)
                    have HVN := Lib.hid (show RoadsVal W1 wr (ms ++ (ms5 ++ z.map (turnB little))) u5 from by rw [← List.append_assoc]; exact HP7.out.val)
                    go_wp2_with fail
                    exact ⟨⟨l + 1, _, by go_num, by omega, by omega, HSP, HVN, HO7⟩, by simp only [intOf]; omega⟩
            · have hpt' : p = t + 1 := by omega
              subst hpt'
              have HX := Lib.hid (HRG.out ms5 (HR5.out.congr (fun c => by omega) (by omega)))
              go_wp2_with fail
              exact ⟨⟨j + 1, _, by go_num, by omega, HX, HV5, HO5⟩, by simp only [intOf]; omega⟩
        · have hjn' : ¬ (j : Int) < (n2 : Int) := by omega
          have HFIN := Lib.hid (show RS ms (codeT little) (ptsV a 3) (cntB (ptsC a 3) 1114112) from by
            have h := HRM.out
            rw [List.take_of_length_le (by have := HN2.out; omega)] at h
            exact RS.partV (by omega) HSET.out rfl h)
          obtain ⟨A5, n5, c5, vs5, rfl, h⟩ := HVm.out
          have HO := Lib.hid (RoadsP.up (Q := fun ls => RS ls (codeT little) (ptsV a 3) (cntB (ptsC a 3) 1114112)) HB1.out ⟨ms, HFIN, A5, n5, c5, vs5, rfl, h⟩)
          go_wp2
          go_ret
          exact HO.out
end Go.Proofs.YtpdcbddofekbcaaGreat
