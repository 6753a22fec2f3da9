/- Roads of the program: walked. -/
import Derived.Test.YtpdcbddofekbcaaGreatGE
import Derived.Test.YtpdcbddofekbcaaGreatSplY
import Derived.Test.YtpdcbddofekbcaaGreatSplO
import Derived.Test.YtpdcbddofekbcaaGreatSplW
namespace Go.Proofs.YtpdcbddofekbcaaGreat
open Go.RowKit
set_option linter.unusedVariables false
def RoadsE (w : World) (enc : Int) (a : List (Int × Int)) (e : Ending) (w' : World) : Prop :=
  ∃ ls A n c vs, e = .returned (.tuple #[.slice A n c, .int .i64 (roadE enc a)]) ∧ n ≤ c ∧ c ≤ maxLen ∧ Hid (w'.ownsRow w.heap.size 22 1 (.slice A n c) n vs) ∧ Hid (OwnSls w' w.heap.size vs ls) ∧ Below w.heap.size w w' ∧ Hid (roadE enc a = 0 → FinR enc a ls) ∧ Hid (roadE enc a ≠ 0 → ls = [])
theorem RoadsE.bad {w w' : World} {enc : Int} {a : List (Int × Int)} {k : Int} (hk : roadE enc a = k) (h0 : k ≠ 0) (hb : Below w.heap.size w w') : RoadsE w enc a (.returned (.tuple #[.slice none 0 0, .int .i64 k])) w' :=
  ⟨[], none, 0, 0, [], by rw [hk], Nat.le_refl _, Nat.zero_le _, Lib.hid (World.ownsRow_nil _ _ _ _), Lib.hid (OwnSls.nil _ _), hb, Lib.hid fun h => absurd (hk.symm.trans h) h0, Lib.hid fun _ => rfl⟩
theorem RoadsE.fin {w w1 w2 w3 : World} {enc : Int} {a : List (Int × Int)} {ls ls' : List (List (Int × Int))} {A : Option Addr} {n c : Nat} {vs' : List Value} (hE : roadE enc a = 0) (hb1 : Below w.heap.size w w1) (hb2 : Below w1.heap.size w1 w2) (hb3 : Below w1.heap.size w2 w3) (h1 : n ≤ c) (h2 : c ≤ maxLen)
    (hr : RS ls (codeE enc) (fun p => mem a p ∧ ScalE enc p) (cntB (fun p => memB a p && scalB enc p) 1114112)) (q1 : ls'.Perm ls) (q2 : ls'.Pairwise fun a b => lexB (keyR b) (keyR a) = false) (q3 : w3.ownsRow w1.heap.size 22 1 (.slice A n c) n vs') (q4 : OwnSls w3 w1.heap.size vs' ls') : RoadsE w enc a (.returned (.tuple #[.slice A n c, .int .i64 0])) w3 :=
  ⟨ls', A, n, c, vs', by rw [hE], h1, h2, Lib.hid (own_mono q3 hb1.size), Lib.hid (q4.mono hb1.size), hb1.trans ((hb2.trans hb3).mono hb1.size), Lib.hid fun _ => ⟨hr.perm q1, q2⟩, Lib.hid fun h => absurd hE h⟩
theorem RS.small4 {ls : List (List (Int × Int))} {code : Int → List Int} {P : Int → Prop} {m : Int} (h : RS ls code P m) : ∀ r ∈ ls, small r ∧ r.length ≤ 4 := fun r hr => by
  obtain ⟨⟨_, h4⟩, hx⟩ := h.shape r hr
  exact ⟨fun x hx' => by have := hx x hx'; omega, h4⟩
theorem RS.many {ls : List (List (Int × Int))} {code : Int → List Int} {P : Int → Prop} {f : Int → Bool} (h : RS ls code P (cntB f 1114112)) : ls.length ≤ 1114112 := by
  have h1 := h.len
  have h2 := cntB_le f 1114112
  omega
set_option maxRecDepth 100000 in
set_option maxHeartbeats 2000000 in
theorem roads5_1 (a : List (Int × Int)) (A : Option Addr) (n c : Nat) (w : World) (hnc : n ≤ c) (hc : c ≤ maxLen) (ha : Rds w w.heap.size 2 A n (rngs a)) (hk : chk a = 0) :
    Calls Tryz.prog 10 #[.int .i64 1, .slice A n c] w (RoadsE w 1 a) := by
  have C1 := Lib.hid (check18 a A n c w hnc hc ha)
  rw [hk] at C1
  have HE := Lib.hid (show roadE 1 a = 0 by unfold roadE; rw [if_pos (by decide), hk])
  have HC := Lib.hid ((chk_ok a).1 hk)
  have hn : n ≤ 400 := by have := ha.rngs_len; have := HC.out.1; omega
  have HA := Lib.hid ha
  clear ha hk
  go_enter Tryz.func10, Tryz.ntmps10
  go_wp2_with fail
  refine C1.out.mono ?_
  rintro e w1 ⟨rfl, hb1⟩
  have R1 := Lib.hid (HA.out.next hb1)
  go_wp2_with fail
  refine (utf8Roads_all a A n c w1 (by omega) HC.out.2 R1.out).mono ?_
  rintro e w2 ⟨ls, HRS, A2, n2, c2, vs, rfl, h1, h2, h3, h4, h6⟩
  have HL := Lib.hid (own_count h3.out h4.out)
  have HM := Lib.hid HRS.out.many
  go_wp2_with fail
  refine (sortRoads ls vs A2 n2 c2 w1.heap.size w2 (by have := HL.out; have := HM.out; omega) h6.size h3.out h4.out HRS.out.small4).mono ?_
  rintro e w3 ⟨rfl, ls', vs', q1, q2, q3, q4, q5⟩
  have HF := Lib.hid (RoadsE.fin HE.out hb1 h6 q5 h1 h2 (HRS.out.fin8 HC.out.2) q1 q2 q3 q4)
  clear q1 q2 q3 q4 q5 h3 h4 h6 HL HM
  go_wp2
  go_ret2
  exact HF.out
set_option maxRecDepth 100000 in
set_option maxHeartbeats 2000000 in
theorem roads5_16 (enc : Int) (he : enc = 2 ∨ enc = 3) (a : List (Int × Int)) (A : Option Addr) (n c : Nat) (w : World) (hnc : n ≤ c) (hc : c ≤ maxLen) (ha : Rds w w.heap.size 2 A n (rngs a)) (hk : chk a = 0) :
    Calls Tryz.prog 10 #[.int .i64 enc, .slice A n c] w (RoadsE w enc a) := by
  have C1 := Lib.hid (check18 a A n c w hnc hc ha)
  rw [hk] at C1
  have HE := Lib.hid (show roadE enc a = 0 by unfold roadE; rw [if_pos (by omega), hk])
  have HC := Lib.hid ((chk_ok a).1 hk)
  have hn : n ≤ 400 := by have := ha.rngs_len; have := HC.out.1; omega
  have HA := Lib.hid ha
  have HEE := Lib.hid (fun (ls : List (List (Int × Int))) (h : RS ls (codeT (decide (enc = 2))) (ptsV a 3) (cntB (ptsC a 3) 1114112)) => h.fin16 HC.out.2 he)
  have HU := Lib.hid (fun (w1 : World) (h : Rds w1 w1.heap.size 2 A n (rngs a)) => utf16Roads_all (decide (enc = 2)) a A n c w1 (by omega) HC.out.2 h)
  clear ha hk
  rcases he with rfl | rfl
  all_goals
    go_enter Tryz.func10, Tryz.ntmps10
    go_wp2_with fail
    refine C1.out.mono ?_
    rintro e w1 ⟨rfl, hb1⟩
    have R1 := Lib.hid (HA.out.next hb1)
    go_wp2_with fail
    refine (HU.out w1 R1.out).mono ?_
    rintro e w2 ⟨ls, HRS, A2, n2, c2, vs, rfl, h1, h2, h3, h4, h6⟩
    have HL := Lib.hid (own_count h3.out h4.out)
    have HM := Lib.hid HRS.out.many
    go_wp2_with fail
    refine (sortRoads ls vs A2 n2 c2 w1.heap.size w2 (by have := HL.out; have := HM.out; omega) h6.size h3.out h4.out HRS.out.small4).mono ?_
    rintro e w3 ⟨rfl, ls', vs', q1, q2, q3, q4, q5⟩
    have HF := Lib.hid (RoadsE.fin HE.out hb1 h6 q5 h1 h2 (HEE.out _ HRS.out) q1 q2 q3 q4)
    clear q1 q2 q3 q4 q5 h3 h4 h6 HL HM
    go_wp2
    go_ret2
    exact HF.out
set_option maxRecDepth 100000 in
set_option maxHeartbeats 2000000 in
theorem roads5_4 (a : List (Int × Int)) (A : Option Addr) (n c : Nat) (w : World) (hnc : n ≤ c) (hc : c ≤ maxLen) (ha : Rds w w.heap.size 2 A n (rngs a)) (hk : chk a = 0) :
    Calls Tryz.prog 10 #[.int .i64 4, .slice A n c] w (RoadsE w 4 a) := by
  have C1 := Lib.hid (check18 a A n c w hnc hc ha)
  rw [hk] at C1
  have HE := Lib.hid (show roadE 4 a = 0 by unfold roadE; rw [if_pos (by decide), hk])
  have HC := Lib.hid ((chk_ok a).1 hk)
  have hn : n ≤ 400 := by have := ha.rngs_len; have := HC.out.1; omega
  have HA := Lib.hid ha
  clear ha hk
  go_enter Tryz.func10, Tryz.ntmps10
  go_wp2_with fail
  refine C1.out.mono ?_
  rintro e w1 ⟨rfl, hb1⟩
  have R1 := Lib.hid (HA.out.next hb1)
  have HB1 := Lib.hid hb1
  go_wp2_with fail
  refine (within92 a 0 255 A n c w1 (by omega) HC.out.2 (by decide) (by decide) (by decide) R1.out).mono ?_
  rintro e w2 ⟨out, hset, A2, n2, c2, rfl, hown, hbl⟩
  have HSET := Lib.hid hset
  have HV1 := Lib.hid ((RoadsVal.nil w1).next hbl)
  have HO1 := Lib.hid (own_mono hown (Nat.zero_le _))
  have hn2 : n2 = out.length := by have := (Rds.of_own hown).rngs_len; omega
  have HN2 := Lib.hid hn2
  clear hset hown hbl hn2 hb1
  go_wp2_with fail
  go_loopw [7, 35] (fun o i w3 => ∃ j : Nat, ∃ ms, i = .int .i64 (j : Int) ∧ j ≤ n2 ∧ Hid (RS ms (fun p => [p]) (fun p => False ∨ mem (out.take j) p) (0 + countL (out.take j))) ∧ Hid (RoadsVal w1 w3 ms o) ∧ Hid (w3.ownsRow 0 25 2 (.slice A2 n2 c2) n2 (rngs out))) (fun _ i _ => (n2 - intOf i).toNat)
  case atStart => exact ⟨0, [], by go_num, by omega, Lib.hid ((RS.nil _).congr (fun p => by simp [mem]) (by simp [countL])), HV1, HO1⟩
  case round =>
    obtain ⟨j, ms, rfl, hj, HRM, HVm, HOm⟩ := hrel
    by_cases hjn : j < n2
    · obtain ⟨b1, off1, hl1, hA2, hb1, hc1, hd1⟩ := (Rds.of_own HOm.out).rng_at hjn
      have hok := (okR_iff _).1 (HSET.out.1.1 _ (List.getElem_mem hl1))
      have hhi := ((HSET.out.2 out[j].2).1 ⟨out[j], List.getElem_mem hl1, hok.2.1, Int.le_refl _⟩).2.2
      have HRG := Lib.hid (fun (ms2 : List (List (Int × Int))) (h : RS ms2 (fun p => [p]) (fun p => out[j].1 ≤ p ∧ p ≤ out[j].2) (out[j].2 - out[j].1 + 1)) => HRM.out.range code1_inj HSET.out.1 hl1 h fun p h1 h2 => h1)
      obtain ⟨p, hp⟩ : ∃ p, p = out[j] := ⟨_, rfl⟩
      rw [← hp] at hc1 hd1 hok hhi HRG
      clear hp
      obtain ⟨x, y⟩ := p
      simp only at hc1 hd1 hok hhi
      subst hA2
      have hjn' : (j : Int) < (n2 : Int) := by omega
      have hn2b : n2 ≤ maxLen := by obtain ⟨_, _, _, q1, q2⟩ := own_slice HOm.out; omega
      unfold maxLen at hn2b
      obtain ⟨ho0, ho1, ho2⟩ := hok
      have HNW := Lib.hid (HRG.out [[(x, y)]] (RS.one1 ho0 ho1 hhi))
      obtain ⟨A4, n4, c4, vs, rfl, r1, r2, r3, r4, r5⟩ := HVm.out
      have hn4 : n4 ≤ 4000000 := by
        have h1 := own_count r3.out r4.out
        have h3 := HRM.out.len
        have h5 := countL_take_le HSET.out.1 j
        omega
      have HBW := Lib.hid (show Below wr.heap.size wr ((wr.alloc (.cells #[.int .i64 x, .int .i64 y] 25)).alloc (.cells #[.int .i64 x, .int .i64 y] 25)) by go_grown)
      have HRW := Lib.hid (show ((wr.alloc (.cells #[.int .i64 x, .int .i64 y] 25)).alloc (.cells #[.int .i64 x, .int .i64 y] 25)).ownsRow wr.heap.size 25 2 (.slice (some ⟨wr.heap.size + 1, 0, none⟩) 1 1) 1 (rngs [(x, y)]) from
        by
          have e : (wr.alloc (.cells #[.int .i64 x, .int .i64 y] 25)).heap.size = wr.heap.size + 1 := by simp
          have h := own_new (wr.alloc (.cells #[.int .i64 x, .int .i64 y] 25)) wr.heap.size 25 2 1 #[.int .i64 x, .int .i64 y] (by rw [e]; exact Nat.le_succ _) rfl (by decide)
          rw [e] at h
          exact h)
      have HR3 := Lib.hid (own_below r3.out HBW.out (Nat.le_refl _))
      have HR4 := Lib.hid (r4.out.below HBW.out)
      have HR5 := Lib.hid (r5.trans (HBW.out.mono r5.size))
      have HFR := Lib.hid (r4.out.fresh HRW.out)
      have HOw := Lib.hid (own_below HOm.out HBW.out (Nat.le_refl _))
      have HWS := Lib.hid r5.size
      clear r3 r4 r5
      have HRD := Lib.hid (show Rds (((wr.alloc (.cells #[.int .i64 x, .int .i64 y] 25)).alloc (.cells #[.int .i64 x, .int .i64 y] 25)).alloc (.cells #[.slice (some ⟨wr.heap.size + 1, 0, none⟩) 1 1] 22)) (wr.heap.size + 1 + 1 + 1) 1 (some ⟨wr.heap.size + 1 + 1, 0, none⟩) 1 [.slice (some ⟨wr.heap.size + 1, 0, none⟩) 1 1] from by
        have h := Rds.new ((wr.alloc (.cells #[.int .i64 x, .int .i64 y] 25)).alloc (.cells #[.int .i64 x, .int .i64 y] 25)) 1 1 #[.slice (some ⟨wr.heap.size + 1, 0, none⟩) 1 1] 22 [.slice (some ⟨wr.heap.size + 1, 0, none⟩) 1 1] rfl rfl
        have e : ((wr.alloc (.cells #[.int .i64 x, .int .i64 y] 25)).alloc (.cells #[.int .i64 x, .int .i64 y] 25)).heap.size = wr.heap.size + 1 + 1 := by simp
        rw [e] at h
        exact h)
      go_wp2_with (at_builtin; refine app_roads (.tmp 39) (.tmp 42) (base := w1.heap.size) (xs := vs) (n := n4) (HR3.out.alloc _) HRD.out (by simp [Value.oneCell']) (by omega) (by have := HR5.out.size; simp at this ⊢; omega) rfl rfl rfl rfl ?_; intro v9 w9 hown9 hg9 hat9)
      have HVN := Lib.hid (RoadsVal.push (HR3.out.alloc _) (HR4.out.alloc _) (HR5.out.alloc HR5.out.size _) ((own_mono HRW.out HWS.out).alloc _) hown9 hg9 HFR.out)
      have HON := Lib.hid (own_kept (HOw.out.alloc (.cells #[.slice (some ⟨wr.heap.size + 1, 0, none⟩) 1 1] 22)) hg9 (own_ne_type (HR3.out.alloc (.cells #[.slice (some ⟨wr.heap.size + 1, 0, none⟩) 1 1] 22)) (HOw.out.alloc (.cells #[.slice (some ⟨wr.heap.size + 1, 0, none⟩) 1 1] 22)) (by decide)))
      clear hown9 hg9 hat9
      exact ⟨⟨j + 1, _, by go_num, by omega, HNW, HVN, HON⟩, by simp only [intOf]; omega⟩
    · have hjn' : ¬ (j : Int) < (n2 : Int) := by omega
      obtain ⟨A4, n4, c4, vs, rfl, h1, h2, h3, h4, h6⟩ := HVm.out
      have HRS := Lib.hid (show RS ms (codeE 4) (fun p => mem a p ∧ ScalE 4 p) (cntB (fun p => memB a p && scalB 4 p) 1114112) from by
        have h := HRM.out
        rw [List.take_of_length_le (by have := HN2.out; omega)] at h
        exact RS.fin1 HC.out.2 HSET.out h)
      have HL := Lib.hid (own_count h3.out h4.out)
      have HM := Lib.hid HRS.out.many
      have hz1 := h6.size
      go_wp2_with fail
      refine (sortRoads ms vs A4 n4 c4 w1.heap.size wr (by have := HL.out; have := HM.out; omega) hz1 h3.out h4.out HRS.out.small4).mono ?_
      rintro e w3 ⟨rfl, ls', vs', q1, q2, q3, q4, q5⟩
      have HF := Lib.hid (RoadsE.fin HE.out HB1.out h6 q5 h1 h2 HRS.out q1 q2 q3 q4)
      clear q1 q2 q3 q4 q5 h3 h4 h6 HL HM
      go_wp2
      go_ret2
      exact HF.out
set_option maxRecDepth 100000 in
set_option maxHeartbeats 2000000 in
theorem roads5 (enc : Int) (a : List (Int × Int)) (A : Option Addr) (n c : Nat) (w : World) (hnc : n ≤ c) (hc : c ≤ maxLen) (ha : Rds w w.heap.size 2 A n (rngs a)) :
    Calls Tryz.prog 10 #[.int .i64 enc, .slice A n c] w (RoadsE w enc a) := by
  by_cases he : 1 ≤ enc ∧ enc ≤ 4
  · by_cases hk : chk a = 0
    · have hcs : enc = 1 ∨ (enc = 2 ∨ enc = 3) ∨ enc = 4 := by omega
      rcases hcs with rfl | he' | rfl
      · exact roads5_1 a A n c w hnc hc ha hk
      · exact roads5_16 enc he' a A n c w hnc hc ha hk
      · exact roads5_4 a A n c w hnc hc ha hk
    · have C1 := Lib.hid (check18 a A n c w hnc hc ha)
      have HE := Lib.hid (show roadE enc a = chk a by unfold roadE; rw [if_pos he])
      obtain ⟨k, hkk⟩ : ∃ k, k = chk a := ⟨_, rfl⟩
      rw [← hkk] at C1 HE hk
      clear hkk ha
      obtain ⟨e1, e2⟩ := he
      have e1' : ¬ enc < 1 := by omega
      have e2' : ¬ 4 < enc := by omega
      go_enter Tryz.func10, Tryz.ntmps10
      go_wp2_with fail
      refine C1.out.mono ?_
      rintro e w1 ⟨rfl, hb1⟩
      have HF := Lib.hid (RoadsE.bad HE.out hk hb1)
      clear hb1
      go_wp2
      go_ret2
      exact HF.out
  · have HE := Lib.hid (show roadE enc a = 7 by unfold roadE; rw [if_neg he])
    clear ha
    have HF := Lib.hid (RoadsE.bad HE.out (by decide) (Below.refl _ w))
    by_cases h1 : enc < 1
    · go_enter Tryz.func10, Tryz.ntmps10
      go_wp2
      go_ret2
      exact HF.out
    · have h2 : 4 < enc := by omega
      go_enter Tryz.func10, Tryz.ntmps10
      go_wp2
      go_ret2
      exact HF.out
end Go.Proofs.YtpdcbddofekbcaaGreat
