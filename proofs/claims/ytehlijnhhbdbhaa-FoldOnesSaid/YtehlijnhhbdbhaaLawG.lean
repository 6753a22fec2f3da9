/- FoldOnes: walked. -/
import Derived.Test.YtehlijnhhbdbhaaFoldR
import Derived.Test.YtehlijnhhbdbhaaLawE
namespace Go.Proofs.Ytehlijnhhbdbhaa
open Go.RowKit
set_option linter.unusedVariables false
theorem upper_alpha (p : Int) (h : mem l_upper p) : mem l_alpha p := by
  simp only [l_upper, l_alpha, mem_append, mem_evens, mem_cons, mem_nil, or_false] at *
  omega
theorem lower_alpha (p : Int) (h : mem l_lower p) : mem l_alpha p := by
  simp only [l_lower, l_alpha, mem_append, mem_evens, mem_cons, mem_nil, or_false] at *
  omega
theorem bes_alpha {x q : Int} (h : q ∈ besP x) : mem l_alpha x := by
  obtain ⟨r, hr, h⟩ := (mem_besP x q).1 h
  simp only [tbl, List.mem_cons, List.not_mem_nil, or_false] at hr
  rcases hr with rfl | rfl | rfl | rfl | rfl | rfl | rfl | rfl | rfl | rfl | rfl | rfl | rfl <;>
    rcases h with ⟨h, _⟩ | ⟨h, _⟩ <;> rw [hit_iff] at h <;> simp only [l_alpha, mem_cons, mem_nil, or_false] at * <;> omega
theorem many_bes {p : Int} (h : 1 < (orb p).length) : ∃ q, q ∈ besP p := by
  cases hb : besP p with
  | nil => rw [orb_alone hb] at h; simp at h
  | cons q l => exact ⟨q, by simp⟩
theorem alpha_orb {p x : Int} (h0 : 0 ≤ p) (h1 : p ≤ 1114111) (hx : x ∈ orb p) (h : 1 < (orb p).length) : memB l_alpha x = true ∧ memB l_alpha p = true := by
  obtain ⟨q, hq⟩ := many_bes h
  have e := ((orb_facts p h0 h1).2 x hx).2
  obtain ⟨q2, hq2⟩ := many_bes (p := x) (by rw [e]; exact h)
  exact ⟨(memB_iff _ _).2 (bes_alpha hq2), (memB_iff _ _).2 (bes_alpha hq)⟩
theorem alpha_same {p x : Int} (h0 : 0 ≤ p) (h1 : p ≤ 1114111) (hx : x ∈ orb p) : (1 < (orb p).length ∧ memB l_alpha x = true ∧ memB l_alpha p = true) ∨ ¬ 1 < (orb p).length := by
  by_cases h : 1 < (orb p).length
  · exact .inl ⟨h, alpha_orb h0 h1 hx h⟩
  · exact .inr h
theorem cls_alpha : cls (⟨#[97, 108, 112, 104, 97]⟩ : ByteArray).toList = some l_alpha := by rw [ByteArray.toList_eq]; rfl
theorem cls_upper : cls (⟨#[117, 112, 112, 101, 114]⟩ : ByteArray).toList = some l_upper := by rw [ByteArray.toList_eq]; rfl
theorem cls_lower : cls (⟨#[108, 111, 119, 101, 114]⟩ : ByteArray).toList = some l_lower := by rw [ByteArray.toList_eq]; rfl
set_option maxRecDepth 100000 in
set_option maxHeartbeats 4000000 in
theorem ones_aux (p : Int) (h0 : 0 ≤ p) (h1 : p ≤ 1114111) (a u lo : Bool) (ha : memB l_alpha p = a) (hu : memB l_upper p = u) (hl : memB l_lower p = lo) (hok : ((u || lo) && !a) = false) (w : World) :
    Calls Try.prog 22 #[.int .i64 p] w fun e w' => e = .returned (.bool true) ∧ Below w.heap.size w w' := by
  have C1 := Lib.hid (fun w => orbit60 p w h0 h1)
  have C2 := Lib.hid (fun w => in65 _ _ p w cls_alpha h0 h1)
  have C3 := Lib.hid (fun w => in65 _ _ p w cls_upper h0 h1)
  have C4 := Lib.hid (fun w => in65 _ _ p w cls_lower h0 h1)
  have H0 := Lib.hid h0
  have H1 := Lib.hid h1
  have HA := Lib.hid ha
  rw [ha] at C2
  rw [hu] at C3
  rw [hl] at C4
  clear h0 h1 ha hu hl
  cases u <;> cases lo <;> cases a <;> first | (simp at hok; done) | (
    clear hok
    go_enter Try.func22, Try.ntmps22
    go_wp2_with fail
    refine (foldBegun58 _).mono ?_
    rintro e w1 ⟨rfl, b1⟩
    go_wp2_with fail
    refine (C1.out _).mono ?_
    rintro e w2 ⟨A, n, c, rfl, q1, q2, HL, R, hb⟩
    have b2 := below_next b1 hb
    clear b1 hb
    go_wp2_with fail
    refine (hasInt64 (orb p) p A n c w2 (by omega) R.out).mono ?_
    rintro e w' ⟨rfl, rfl⟩
    rw [(hasI_iff _ _).2 (self_orb p)]
    go_wp2_with fail
    refine (C2.out _).mono ?_
    rintro e w3 ⟨rfl, hb⟩
    have R3 := Lib.hid (R.out.next hb)
    have b3 := below_next b2 hb
    clear b2 hb
    go_wp2_with fail
    refine (C3.out _).mono ?_
    rintro e w4 ⟨rfl, hb⟩
    have R4 := Lib.hid (R3.out.next hb)
    have b4 := below_next b3 hb
    clear b3 hb
    go_wp2_with fail
    refine (C4.out _).mono ?_
    rintro e w5 ⟨rfl, hb⟩
    have R5 := Lib.hid (R4.out.next hb)
    have b5 := below_next b4 hb
    clear b4 hb C1 C2 C3 C4
    unfold maxLen at q2
    go_wp2_with fail
    go_loopw [10] (fun i wr => ∃ k : Nat, k ≤ n ∧ i = .int .i64 k ∧ Below w5.heap.size w5 wr) (fun i _ => n - (intOf i).toNat)
    case atStart => exact ⟨0, Nat.zero_le _, rfl, Below.refl _ _⟩
    case round =>
      obtain ⟨k, hk, rfl, hB⟩ := hrel
      by_cases hlt : k < n
      · have R6 := Lib.hid (R5.out.next hB)
        obtain ⟨b1, off1, hl1, hA, hb1, hc1⟩ := R6.out.int_at hlt
        have HX := Lib.hid (orb_facts p H0.out H1.out |>.2 _ (List.getElem_mem hl1))
        have HS := Lib.hid (alpha_same H0.out H1.out (List.getElem_mem hl1))
        obtain ⟨x, hx⟩ : ∃ x, x = (orb p)[k] := ⟨_, rfl⟩
        rw [← hx] at hc1 HX HS
        clear hx
        have HAA := Lib.hid hA
        subst hA
        have k2 : (k : Int) < (n : Int) := by omega
        go_wp2_with fail
        refine (orbit60 x wr HX.out.1.1 HX.out.1.2).mono ?_
        rintro e w6 ⟨A6, n6, c6, rfl, q6, q7, HL6, R7, hb⟩
        have hc6 : w6.cell? ⟨b1, off1 + k, none⟩ = some (.int .i64 x) := by rw [hb.cell (p := ⟨b1, off1 + k, none⟩) hb1]; exact hc1
        have R8 := Lib.hid (R6.out.next hb)
        have b6 := below_next hB hb
        clear hB hb
        go_wp2_with fail
        refine (in65 _ _ x w6 cls_alpha HX.out.1.1 HX.out.1.2).mono ?_
        rintro e w7 ⟨rfl, hb⟩
        have R9 := Lib.hid (R8.out.next hb)
        have R10 := Lib.hid (R7.out.next hb)
        have b7 := below_next b6 hb
        clear b6 hb
        generalize hax : memB l_alpha x = ax at *
        have HAX := Lib.hid hax
        clear hax
        go_wp2_with fail
        refine (sameInts63 (orb p) (orb x) _ A6 n n6 c c6 w7 (by unfold maxLen; omega) (by omega) R9.out R10.out).mono ?_
        rintro e w8 ⟨rfl, hb⟩
        rw [HX.out.2, sameI_self]
        have b8 := below_next b7 hb
        clear b7 hb
        rcases HS.out with ⟨g1, g2, g3⟩ | g1
        · rw [HL.out] at g1
          have g1' : (1 : Int) < (n : Int) := by omega
          obtain rfl : ax = true := g2
          have g4 := HA.out.symm.trans g3
          first
            | (cases g4; done)
            | (clear g4 g3
               go_wp2
               go_roundw
               case rel => exact ⟨k + 1, by omega, by go_num, b8⟩
               case measure => simp [intOf]; omega)
        · rw [HL.out] at g1
          have g1' : ¬ (1 : Int) < (n : Int) := by omega
          go_wp2
          go_roundw
          case rel => exact ⟨k + 1, by omega, by go_num, b8⟩
          case measure => simp [intOf]; omega
      · obtain rfl : k = n := by omega
        go_wp2
        go_ret
        exact ⟨rfl, below_next b5 hB⟩)
set_option maxRecDepth 100000 in
set_option maxHeartbeats 2000000 in
theorem lawOnes (p : Int) (w : World) : Calls Try.prog 22 #[.int .i64 p] w fun e w' => e = .returned (.bool true) ∧ Below w.heap.size w w' := by
  by_cases hp : 0 ≤ p ∧ p ≤ 1114111
  · refine ones_aux p hp.1 hp.2 _ _ _ rfl rfl rfl ?_ w
    cases ha : memB l_alpha p
    · have h1 : memB l_upper p = false := by rw [Bool.eq_false_iff]; intro h; have := (memB_iff _ _).2 (upper_alpha p ((memB_iff _ _).1 h)); rw [ha] at this; cases this
      have h2 : memB l_lower p = false := by rw [Bool.eq_false_iff]; intro h; have := (memB_iff _ _).2 (lower_alpha p ((memB_iff _ _).1 h)); rw [ha] at this; cases this
      rw [h1, h2]; rfl
    · simp
  · have C1 := Lib.hid (fun w => orbit60_no p w hp)
    clear hp
    go_enter Try.func22, Try.ntmps22
    go_wp2_with fail
    refine (foldBegun58 _).mono ?_
    rintro e w1 ⟨rfl, b1⟩
    go_wp2_with fail
    refine (C1.out _).mono ?_
    rintro e w' ⟨rfl, rfl⟩
    go_wp2
    go_ret
    exact ⟨rfl, b1⟩
end Go.Proofs.Ytehlijnhhbdbhaa
