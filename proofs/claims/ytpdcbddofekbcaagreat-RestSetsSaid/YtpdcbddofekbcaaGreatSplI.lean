/- utf8Roads of the program: walked. -/
import Derived.Test.YtpdcbddofekbcaaGreatSplH
import Derived.Test.YtpdcbddofekbcaaGreatGE
namespace Go.Proofs.YtpdcbddofekbcaaGreat
open Go.RowKit
set_option linter.unusedVariables false
theorem code8_inj' : ∀ p q, code8 p = code8 q → p = q := fun _ _ h => code8_inj h
theorem RoadsP.mono {w : World} {P Q : List (List (Int × Int)) → Prop} (h : ∀ ls, P ls → Q ls) {e : Ending} {w' : World} (k : RoadsP w P e w') : RoadsP w Q e w' := by
  obtain ⟨ls, hp, ho⟩ := k
  exact ⟨ls, Lib.hid (h ls hp.out), ho⟩
theorem packed8 (i : Nat) (hi : i < 5) (a b : Int) (w : World) (h0 : loU i ≤ a) (h1 : a ≤ b) (h2 : b ≤ hiU i) :
    Calls Tryz.prog 56 #[.int .i64 a, .int .i64 b, .int .i64 (nbU i)] w (RoadsP w fun ls => RS ls code8 (fun p => a ≤ p ∧ p ≤ b) (b - a + 1)) := by
  have hc : i = 0 ∨ i = 1 ∨ i = 2 ∨ i = 3 ∨ i = 4 := by omega
  rcases hc with rfl | rfl | rfl | rfl | rfl
  · have g0 : 0 ≤ a := h0
    have g2 : b ≤ 127 := h2
    refine (packed_1 a b w).mono fun e w' h => ⟨_, Lib.hid ?_, h⟩
    have := RC.one 64 128 0 (a := a) (b := b) (by omega) h1 (by omega)
    rw [Int.zero_add, Int.zero_add] at this
    exact this.rs (ENum.code (code8_1 g2)) (by decide) (by decide)
  · have g0 : 128 ≤ a := h0
    have g2 : b ≤ 2047 := h2
    exact (packedG_2 a b w (by omega) h1 g2).mono fun e w' h => h.mono fun ls g => g.rs (ENum.code (code8_2 g0 g2)) (by decide) (by decide)
  · have g0 : 2048 ≤ a := h0
    have g2 : b ≤ 55295 := h2
    exact (packedG_3 a b w (by omega) h1 (by omega)).mono fun e w' h => h.mono fun ls g => g.rs (ENum.code (code8_3 g0 (by omega))) (by decide) (by decide)
  · have g0 : 57344 ≤ a := h0
    have g2 : b ≤ 65535 := h2
    exact (packedG_3 a b w (by omega) h1 (by omega)).mono fun e w' h => h.mono fun ls g => g.rs (ENum.code (code8_3 (by omega) g2)) (by decide) (by decide)
  · have g0 : 65536 ≤ a := h0
    have g2 : b ≤ 1114111 := h2
    exact (packedG_4 a b w (by omega) h1 g2).mono fun e w' h => h.mono fun ls g => g.rs (ENum.code (code8_4 g0)) (by decide) (by decide)
theorem RS.startU (a : List (Int × Int)) : RS [] code8 (ptsU a 0) (cntB (ptsB a 0) 1114112) :=
  (RS.nil code8).congr (fun p => ⟨fun h => h.elim, fun ⟨j, hj, _⟩ => by omega⟩) (by rw [show ptsB a 0 = fun _ => false from rfl, cntB_false]; rfl)
theorem cntB_le (f : Int → Bool) (k : Nat) : cntB f k ≤ k := by
  induction k with
  | zero => exact Nat.le_refl _
  | succ k ih =>
    simp only [cntB]
    have : (f (k : Int)).toNat ≤ 1 := by cases f (k : Int) <;> decide
    omega
theorem Can.take {a : List (Int × Int)} (h : Can a) (j : Nat) : Can (a.take j) := ⟨fun r hr => h.1 r (List.mem_of_mem_take hr), h.2.sublist (List.take_sublist _ _)⟩
theorem countL_take_le {a : List (Int × Int)} (h : Can a) (j : Nat) : countL (a.take j) ≤ 1114112 := by
  rw [countL_cnt (h.take j)]
  have := cntB_le (memB (a.take j)) 1114112
  omega
theorem RoadsVal.join {w W w4 : World} {ls ms : List (List (Int × Int))} {o v4 : Value} {n m : Nat} {vs us : List Value} (ho : W.ownsRow w.heap.size 22 1 o n vs) (hs : OwnSls W w.heap.size vs ls) (hb : Below w.heap.size w W)
    (h3 : OwnSls W w.heap.size us ms) (h4 : w4.ownsRow w.heap.size 22 1 v4 (n + m) (vs ++ us)) (hg : W.grownBy w4 o.ownBlock) (hf : ∀ u ∈ vs, ∀ x ∈ us, ∀ g, u.ownBlock = some g → x.ownBlock ≠ some g) : RoadsVal w w4 (ls ++ ms) v4 :=
  .of h4 ((hs.append h3 hf).kept ho hg) (grown_own hb ho hg (Nat.le_refl _) hb.size)
/-- the parts as they lie in the heap -/
def partsV : List Value := [.int .i64 0, .int .i64 127, .int .i64 1, .int .i64 128, .int .i64 2047, .int .i64 2, .int .i64 2048, .int .i64 55295, .int .i64 3, .int .i64 57344, .int .i64 65535, .int .i64 3, .int .i64 65536, .int .i64 1114111, .int .i64 4]
theorem partsV_at (i : Nat) (hi : i < 5) : partsV[i * 3]? = some (.int .i64 (loU i)) ∧ partsV[i * 3 + 1]? = some (.int .i64 (hiU i)) ∧ partsV[i * 3 + 2]? = some (.int .i64 (nbU i)) := by
  have hc : i = 0 ∨ i = 1 ∨ i = 2 ∨ i = 3 ∨ i = 4 := by omega
  rcases hc with rfl | rfl | rfl | rfl | rfl <;> exact ⟨rfl, rfl, rfl⟩
set_option maxRecDepth 100000 in
set_option maxHeartbeats 2000000 in
theorem utf8Roads_all (a : List (Int × Int)) (A : Option Addr) (n c : Nat) (w : World) (hn : n ≤ 90000) (hca : Can a) (ha : Rds w w.heap.size 2 A n (rngs a)) :
    Calls Tryz.prog 28 #[.slice A n c] w (RoadsP w fun ls => RS ls code8 (ptsU a 5) (cntB (ptsB a 5) 1114112)) := by
  have HCA := Lib.hid hca
  obtain ⟨W1, hW1⟩ : ∃ W1, W1 = w.alloc (.cells #[.int .i64 0, .int .i64 127, .int .i64 1, .int .i64 128, .int .i64 2047, .int .i64 2, .int .i64 2048, .int .i64 55295, .int .i64 3, .int .i64 57344, .int .i64 65535, .int .i64 3, .int .i64 65536, .int .i64 1114111, .int .i64 4] 65) := ⟨_, rfl⟩
  have hsz : W1.heap.size = w.heap.size + 1 := by rw [hW1]; simp
  have HB1 := Lib.hid (show Below w.heap.size w W1 by rw [hW1]; go_grown)
  have HP1 := Lib.hid (show Rds W1 W1.heap.size 3 (some ⟨w.heap.size, 0, none⟩) 5 partsV by rw [hsz, hW1]; exact Rds.new w 3 5 _ 65 partsV rfl rfl)
  have HA1 := Lib.hid (ha.next HB1.out)
  clear hca ha
  go_enter Tryz.func28, Tryz.ntmps28
  go_wp2_with fail
  rw [← hW1]
  clear hW1
  go_loopw [3, 15] (fun o i wr => ∃ k : Nat, ∃ ls, i = .int .i64 (k : Int) ∧ k ≤ 5 ∧ Hid (RS ls code8 (ptsU a k) (cntB (ptsB a k) 1114112)) ∧ Hid (RoadsVal W1 wr ls o)) (fun _ i _ => (5 - intOf i).toNat)
  case atStart => exact ⟨0, [], by go_num, by omega, Lib.hid (RS.startU a), Lib.hid (RoadsVal.nil W1)⟩
  case round =>
    obtain ⟨k, ls, rfl, hk5, HRS, HV⟩ := hrel
    by_cases hk : k < 5
    · have HVB := Lib.hid (show Below W1.heap.size W1 wr by obtain ⟨_, _, _, _, _, _, _, _, _, h⟩ := HV.out; exact h)
      have HP2 := HP1.out.next HVB.out
      obtain ⟨b, off, hA, hb, hcs⟩ := HP2.cells (by decide)
      injection hA with hA
      injection hA with hb0 hoff0
      subst hb0 hoff0
      obtain ⟨g0, g1, g2⟩ := partsV_at k hk
      have q0 := hcs _ _ g0
      have q1 := hcs _ _ g1
      have q2 := hcs _ _ g2
      rw [Nat.zero_add] at q0 q1 q2
      clear HP2 hcs g0 g1 g2
      have hk' : (k : Int) < 5 := by omega
      go_wp2_with fail
      have HW := Lib.hid (show Below wr.heap.size wr (wr.alloc (.cells #[.int .i64 (loU k), .int .i64 (hiU k), .int .i64 (nbU k)] 65)) by go_grown)
      have hwz : (wr.alloc (.cells #[.int .i64 (loU k), .int .i64 (hiU k), .int .i64 (nbU k)] 65)).heap.size = wr.heap.size + 1 := by simp
      have HS0 := Lib.hid (own_new wr 0 65 3 1 #[.int .i64 (loU k), .int .i64 (hiU k), .int .i64 (nbU k)] (Nat.zero_le _) rfl (by decide))
      have hlh := loU_hiU k
      refine (within92 a (loU k) (hiU k) A n c _ hn HCA.out hlh.1 hlh.2.2 hlh.2.1 ((HA1.out.next HVB.out).next HW.out)).mono ?_
      rintro e w1 ⟨out, hset, A2, n2, c2, rfl, hown, hbl⟩
      have HSET := Lib.hid hset
      have HW1 := Lib.hid (HW.out.trans (hbl.mono (by rw [hwz]; omega)))
      have HV1 := Lib.hid (HV.out.next HW1.out)
      have HO1 := Lib.hid (own_mono hown (Nat.zero_le _))
      have HS1 := Lib.hid (own_below HS0.out hbl (Nat.le_refl _))
      obtain ⟨B5, hB5⟩ : ∃ B5, B5 = wr.heap.size := ⟨_, rfl⟩
      rw [← hB5] at HS1 ⊢
      have hn2 : n2 = out.length := by have := (Rds.of_own hown).rngs_len; omega
      have HN2 := Lib.hid hn2
      clear hset hown hbl HW HW1 HS0 hwz q0 q1 q2 HV HVB hB5 hn2
      go_wp2_with fail
      go_loopw [3, 26] (fun o i w3 => ∃ j : Nat, ∃ ms, i = .int .i64 (j : Int) ∧ j ≤ n2 ∧ Hid (RS ms code8 (fun p => ptsU a k p ∨ mem (out.take j) p) (cntB (ptsB a k) 1114112 + countL (out.take j))) ∧ Hid (RoadsVal W1 w3 ms o) ∧ Hid (w3.ownsRow 0 25 2 (.slice A2 n2 c2) n2 (rngs out)) ∧ Hid (w3.ownsRow 0 65 3 (.slice (some ⟨B5, 0, none⟩) 1 1) 1 [.int .i64 (loU k), .int .i64 (hiU k), .int .i64 (nbU k)])) (fun _ i _ => (n2 - intOf i).toNat)
      case atStart => exact ⟨0, ls, by go_num, by omega, Lib.hid (HRS.out.congr (fun p => by simp [mem]) (by simp [countL])), HV1, HO1, HS1⟩
      case round =>
        obtain ⟨j, ms, rfl, hj, HRM, HVm, HOm, HSm⟩ := hrel
        by_cases hjn : j < n2
        · obtain ⟨b1, off1, hl1, hA2, hb1, hc1, hd1⟩ := (Rds.of_own HOm.out).rng_at hjn
          obtain ⟨b2, off2, hA5, hb2, hcs⟩ := (Rds.of_own HSm.out).cells (by decide)
          injection hA5 with hA5
          injection hA5 with hb0 hoff0
          have hnb : wr.cell? ⟨B5, 2, none⟩ = some (.int .i64 (nbU k)) := by
            have := hcs 2 (.int .i64 (nbU k)) rfl
            rw [← hb0, ← hoff0] at this
            exact this
          have hB5 : B5 < wr.heap.size := by omega
          have hout := HSET.out.1.1 _ (List.getElem_mem hl1)
          have hok := (okR_iff _).1 hout
          have hlo := ((HSET.out.2 out[j].1).1 ⟨out[j], List.getElem_mem hl1, Int.le_refl _, hok.2.1⟩).2.1
          have hhi := ((HSET.out.2 out[j].2).1 ⟨out[j], List.getElem_mem hl1, hok.2.1, Int.le_refl _⟩).2.2
          have HRG := Lib.hid (fun (ms2 : List (List (Int × Int))) (h : RS ms2 code8 (fun p => out[j].1 ≤ p ∧ p ≤ out[j].2) (out[j].2 - out[j].1 + 1)) => HRM.out.range code8_inj' HSET.out.1 hl1 h fun p h1 h2 => ptsU_apart hk h1 ((HSET.out.2 p).1 h2).2.1)
          obtain ⟨p, hp⟩ : ∃ p, p = out[j] := ⟨_, rfl⟩
          rw [← hp] at hc1 hd1 hok hlo hhi HRG
          clear hp hcs hb2 hb0 hoff0 hout
          obtain ⟨x, y⟩ := p
          simp only at hc1 hd1 hok hlo hhi
          subst hA2
          have hjn' : (j : Int) < (n2 : Int) := by omega
          have hn2b : n2 ≤ maxLen := by obtain ⟨_, _, _, q1, q2⟩ := own_slice HOm.out; omega
          unfold maxLen at hn2b
          obtain ⟨ho0, ho1, ho2⟩ := hok
          go_wp2_with fail
          have HW2 := Lib.hid (show Below wr.heap.size wr (wr.alloc (.cells #[.int .i64 x, .int .i64 y] 25)) by go_grown)
          refine (packed8 k hk x y _ hlo ho1 hhi).mono ?_
          rintro e w2 ⟨ls2, HR2, A3, n3, c3, us, rfl, p1, p2, p3, p4, p5⟩
          have HW3 := Lib.hid (HW2.out.trans (p5.mono HW2.out.size))
          obtain ⟨A, n, c, vs, rfl, k1, k2, k3, k4, k5⟩ := HVm.out
          have hn : n + n3 ≤ 4000000 := by
            have hn : n = ms.length := own_count k3.out k4.out
            have hn3 : n3 = ls2.length := own_count p3.out p4.out
            have hl1' := HRM.out.len
            have hl2 := HR2.out.len
            have hl3 := countL_take_le HSET.out.1 j
            have hl4 := cntB_le (ptsB a k) 1114112
            have hl5 := hlh.1
            have hl6 := hlh.2.2
            omega
          have K3 := Lib.hid (own_below k3.out HW3.out (Nat.le_refl _))
          have HU := Lib.hid (Rds.of_own p3.out)
          have hsw := HW3.out.size
          go_wp2_with (at_builtin; first
            | (refine app_roads (.tmp 30) (.tmp 37) (base := W1.heap.size) (xs := vs) (n := n) K3.out HU.out p4.out.cells (by omega) (by have := k5.size; omega) rfl rfl rfl rfl ?_; intro v4 w4 hown4 hg4 hat4))
          have HM4 := Lib.hid (HRG.out ls2 HR2.out)
          have HV4 := Lib.hid (RoadsVal.join K3.out (k4.out.below HW3.out) (k5.trans (HW3.out.mono k5.size)) (p4.out.mono (by have := HW2.out.size; have := k5.size; omega)) hown4 hg4 (k4.out.fresh2 (p4.out.mono HW2.out.size)))
          have HO4 := Lib.hid (own_kept (own_below HOm.out HW3.out (Nat.le_refl _)) hg4 (own_ne_type K3.out (own_below HOm.out HW3.out (Nat.le_refl _)) (by decide)))
          have HS4 := Lib.hid (own_kept (own_below HSm.out HW3.out (Nat.le_refl _)) hg4 (own_ne_type K3.out (own_below HSm.out HW3.out (Nat.le_refl _)) (by decide)))
          clear hown4 hg4 hat4 HRG
          exact ⟨⟨j + 1, ms ++ ls2, by go_num, by omega, HM4, HV4, HO4, HS4⟩, by simp only [intOf]; omega⟩
        · have hjn' : ¬ (j : Int) < (n2 : Int) := by omega
          have HFIN := Lib.hid (show RS ms code8 (ptsU a (k + 1)) (cntB (ptsB a (k + 1)) 1114112) from by
            have h := HRM.out
            rw [List.take_of_length_le (by have := HN2.out; omega)] at h
            exact RS.partU hk HSET.out rfl h)
          go_wp2_with fail
          exact ⟨⟨k + 1, ms, by go_num, by omega, HFIN, HVm⟩, by simp only [intOf]; omega⟩
    · have e : k = 5 := by omega
      subst e
      obtain ⟨A2, n2, c2, vs, rfl, h⟩ := HV.out
      have HO := Lib.hid (RoadsP.up (Q := fun ls => RS ls code8 (ptsU a 5) (cntB (ptsB a 5) 1114112)) HB1.out ⟨ls, HRS, A2, n2, c2, vs, rfl, h⟩)
      go_wp2
      go_ret
      exact HO.out
end Go.Proofs.YtpdcbddofekbcaaGreat
