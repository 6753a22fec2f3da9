/- RawFold and Fold of the program: walked. -/
import Derived.Test.YtehlijnhhbdbhaaFoldS
import Derived.Test.YtehlijnhhbdbhaaSetOps
namespace Go.Proofs.Ytehlijnhhbdbhaa
open Go.RowKit
set_option linter.unusedVariables false
set_option maxHeartbeats 1000000 in
theorem orbit60o (p : Int) (w : World) (h0 : 0 ≤ p) (h1 : p ≤ 1114111) : Calls Try.prog 60 #[.int .i64 p] w fun e w' => ∃ A n c, e = .returned (.tuple #[.slice A n c, .int .i64 0]) ∧ n ≤ c ∧ c ≤ maxLen ∧ Hid (w'.ownsRow w.heap.size 3 1 (.slice A n c) n (ints (orb p))) ∧ Below w.heap.size w w' := by
  have HP := Lib.hid (show (decide (0 ≤ p) && decide (p ≤ 1114111)) = true by simp; omega)
  go_enter Try.func60, Try.ntmps60
  go_wp2_with fail
  refine (isPoint107 p true _ HP.out).mono ?_
  rintro e w' ⟨rfl, rfl⟩
  go_wp2_with fail
  refine (orbit108 p _ h0 h1).mono ?_
  rintro e w1 ⟨A, n, c, rfl, hown, hb⟩
  have HO := Lib.hid hown
  obtain ⟨_, _, hv, q1, q2⟩ := own_slice hown
  injection hv with e1 e2 e3
  subst e1 e3
  clear e2 hown
  go_wp2
  go_ret2
  exact ⟨A, n, c, rfl, q1, q2, HO, hb⟩
/-! plain -/
def ones (l : List Int) : List (Int × Int) := l.map fun q => (q, q)
theorem ones_snoc (l : List Int) (k : Nat) (h : k < l.length) : ones (l.take (k + 1)) = ones (l.take k) ++ [(l[k], l[k])] := by
  unfold ones; rw [take_snoc' l k h, List.map_append]; rfl
theorem mem_ones (l : List Int) (q : Int) : mem (ones l) q ↔ q ∈ l := by
  simp only [mem, ones, List.mem_map]
  constructor
  · rintro ⟨r, ⟨x, hx, rfl⟩, h1, h2⟩; simp only at h1 h2; rw [show q = x by omega]; exact hx
  · intro h; exact ⟨(q, q), ⟨q, h, rfl⟩, Int.le_refl _, Int.le_refl _⟩
def foldL (a : List (Int × Int)) (L : List Int) : List (Int × Int) := a ++ L.flatMap fun p => if memB a p then ones (orb p) else []
theorem foldL_nil (a : List (Int × Int)) : foldL a [] = a := by simp [foldL]
theorem foldL_snoc (a : List (Int × Int)) (L : List Int) (k : Nat) (h : k < L.length) : foldL a (L.take (k + 1)) = foldL a (L.take k) ++ (if memB a L[k] then ones (orb L[k]) else []) := by
  unfold foldL; rw [take_snoc' L k h, List.flatMap_append, List.append_assoc]; simp only [List.flatMap_cons, List.flatMap_nil, List.append_nil]
/-- what a set is, folded -/
def FoldP (a : List (Int × Int)) (q : Int) : Prop := mem a q ∨ ∃ p, (∃ x, x ∈ besP p) ∧ mem a p ∧ q ∈ orb p
theorem mem_foldL (a : List (Int × Int)) (L : List Int) (q : Int) : mem (foldL a L) q ↔ mem a q ∨ ∃ p, p ∈ L ∧ mem a p ∧ q ∈ orb p := by
  rw [foldL, mem_append]
  constructor
  · rintro (h | ⟨r, hr, h⟩)
    · exact .inl h
    · obtain ⟨p, hp, hr⟩ := List.mem_flatMap.1 hr
      by_cases hm : memB a p = true
      · rw [if_pos hm] at hr
        exact .inr ⟨p, hp, (memB_iff a p).1 hm, (mem_ones _ q).1 ⟨r, hr, h⟩⟩
      · rw [if_neg hm] at hr; cases hr
  · rintro (h | ⟨p, hp, hm, hq⟩)
    · exact .inl h
    · right
      obtain ⟨r, hr, h⟩ := (mem_ones (orb p) q).2 hq
      exact ⟨r, List.mem_flatMap.2 ⟨p, hp, by rw [if_pos ((memB_iff a p).2 hm)]; exact hr⟩, h⟩
theorem bes_rng {p x : Int} (h : x ∈ besP p) : 0 ≤ p ∧ p ≤ 1114111 := by
  obtain ⟨r, hr, h⟩ := (mem_besP p x).1 h
  have := tbl_ok r hr
  simp [okPr] at this
  rcases h with ⟨h, _⟩ | ⟨h, _⟩ <;> rw [hit_iff] at h <;> omega
theorem foldL_ok {a : List (Int × Int)} (ha : ∀ r ∈ a, okR r = true) {L : List Int} (hL : ∀ x ∈ L, ∃ q, q ∈ besP x) : ∀ r ∈ foldL a L, okR r = true := fun r hr => by
  rcases List.mem_append.1 hr with h | h
  · exact ha r h
  · obtain ⟨p, hp, hr⟩ := List.mem_flatMap.1 h
    split at hr
    · obtain ⟨x, hx, rfl⟩ := List.mem_map.1 hr
      obtain ⟨q, hq⟩ := hL p hp
      have := ((orb_facts p (bes_rng hq).1 (bes_rng hq).2).2 x hx).1
      exact (okR_iff _).2 ⟨this.1, Int.le_refl _, this.2⟩
    · cases hr
theorem mem_same {L : List Int} (hL : ∀ x, x ∈ L ↔ ∃ q, q ∈ besP x) (a : List (Int × Int)) (q : Int) : mem (foldL a L) q ↔ FoldP a q := by
  rw [mem_foldL]
  constructor
  · rintro (h | ⟨p, hp, h⟩)
    · exact .inl h
    · exact .inr ⟨p, (hL p).1 hp, h⟩
  · rintro (h | ⟨p, hp, h⟩)
    · exact .inl h
    · exact .inr ⟨p, (hL p).2 hp, h⟩
set_option maxRecDepth 100000 in
set_option maxHeartbeats 4000000 in
theorem rawFold112 (a : List (Int × Int)) (A : Option Addr) (n c : Nat) (w : World) (hn : n ≤ 90000) (hcan : Can a) (ha : Rds w w.heap.size 2 A n (rngs a)) :
    Calls Try.prog 112 #[.slice A n c] w fun e w' => ∃ out, IsSet out (FoldP a) ∧ out.length ≤ n + 1600 ∧ OwnRngs w out e w' := by
  have HA := Lib.hid ha.rngs_len
  have HC := Lib.hid hcan
  clear hcan
  go_enter Try.func112, Try.ntmps112
  go_wp2_with fail
  refine (clone117 a A n c _ (by omega) ha).mono ?_
  rintro e w1 ⟨A1, n1, c1, rfl, hown, hb1⟩
  have hn1 : n1 = n := by rw [own_rngs_len hown, HA.out]
  subst hn1
  have HO1 := Lib.hid hown
  have R1 := Lib.hid (ha.next hb1)
  clear hown
  go_wp2_with fail
  refine (letters140 w1).mono ?_
  rintro e w2 ⟨L, hL, hLl, AL, nl, cl, rfl, hownL, hb2⟩
  have HL := Lib.hid hL
  have HNL := Lib.hid (own_ints_len hownL)
  have hnl : nl ≤ 400 := by rw [own_ints_len hownL]; exact hLl
  have HO2 := Lib.hid (own_below HO1.out hb2 (Nat.le_refl _))
  have R2 := Lib.hid (R1.out.next hb2)
  have HOL := Lib.hid (own_mono hownL hb1.size)
  have B2 := Lib.hid (below_next hb1 hb2)
  clear hL hLl hownL hb1 hb2 HO1 R1
  go_wp2_with fail
  go_loopw [3, 14] (fun v i wr => ∃ k t : Nat, k ≤ nl ∧ i = .int .i64 k ∧ t ≤ n1 + 4 * k ∧ wr.ownsRow w.heap.size 44 2 v t (rngs (foldL a (L.take k))) ∧ wr.ownsRow w.heap.size 3 1 (.slice AL nl cl) nl (ints L) ∧ Below w.heap.size w wr) (fun _ i _ => nl - (intOf i).toNat)
  case atStart => exact ⟨0, n1, Nat.zero_le _, rfl, by omega, by simpa [foldL_nil] using HO2.out, HOL.out, B2.out⟩
  case round =>
    obtain ⟨k, t, hk, rfl, ht, hout, hol, hB⟩ := hrel
    have HOUT := Lib.hid hout
    have HOL' := Lib.hid hol
    obtain ⟨Ao, co, rfl, hoc, hco⟩ := own_slice hout
    unfold maxLen at hco
    have hsz := hB.size
    by_cases hlt : k < nl
    · obtain ⟨b1, off1, hl1, hA, hb1, hc1⟩ := (Rds.of_own hol).int_at hlt
      have HAL := Lib.hid hA
      subst hA
      have HT := Lib.hid (foldL_snoc a L k hl1)
      have HLET := Lib.hid ((HL.out _).1 (List.getElem_mem hl1))
      obtain ⟨p, hp⟩ : ∃ p, p = L[k] := ⟨_, rfl⟩
      rw [← hp] at hc1 HT HLET
      clear hp hout hol
      have k2 : (k : Int) < (nl : Int) := by omega
      go_wp2_with fail
      refine (rawHas89 a p A n1 c wr (by omega) HC.out ((ha.below hB (Nat.le_refl _)).more hsz)).mono ?_
      rintro e w3 ⟨rfl, hb3⟩
      have HOUT3 := Lib.hid (own_below HOUT.out hb3 (Nat.le_refl _))
      have HOL3 := Lib.hid (own_below HOL'.out hb3 (Nat.le_refl _))
      have B3 := Lib.hid (hB.trans (hb3.mono hsz))
      have hz3 := B3.out.size
      clear hb3 hB
      cases hm : memB a p
      · have HM := Lib.hid hm
        clear hm
        go_wp2
        go_roundw
        case rel => exact ⟨k + 1, t, by omega, by go_num, by omega, by rw [HT.out, HM.out]; simpa using HOUT3.out, HOL3.out, B3.out⟩
        case measure => simp [intOf]; omega
      · have HM := Lib.hid hm
        clear hm
        obtain ⟨qq, hqq⟩ := HLET.out
        have hr := bes_rng hqq
        have HF := Lib.hid (orb_facts p hr.1 hr.2)
        go_wp2_with fail
        refine (orbit60o p w3 hr.1 hr.2).mono ?_
        rintro e w4 ⟨A4, n4, c4, rfl, q3, q4, hown4, hb4⟩
        have HOUT4 := Lib.hid (own_below HOUT3.out hb4 (Nat.le_refl _))
        have HOL4 := Lib.hid (own_below HOL3.out hb4 (Nat.le_refl _))
        have HO4 := Lib.hid (own_mono hown4.out hz3)
        have HN4 := Lib.hid (own_ints_len hown4.out)
        have B4 := Lib.hid (B3.out.trans (hb4.mono hz3))
        have hn4 : n4 ≤ 4 := by rw [HN4.out]; exact HF.out.1
        clear hb4 hown4 hqq hr
        go_wp2_with fail
        go_loopw [3, 28] (fun v i wr => ∃ j t : Nat, j ≤ n4 ∧ i = .int .i64 j ∧ t ≤ n1 + 4 * k + j ∧ wr.ownsRow w.heap.size 44 2 v t (rngs (foldL a (L.take k) ++ ones ((orb p).take j))) ∧ wr.ownsRow w.heap.size 3 1 (.slice (some ⟨b1, off1, none⟩) nl cl) nl (ints L) ∧ wr.ownsRow w.heap.size 3 1 (.slice A4 n4 c4) n4 (ints (orb p)) ∧ Below w.heap.size w wr) (fun _ i _ => n4 - (intOf i).toNat)
        case atStart => exact ⟨0, t, Nat.zero_le _, rfl, by omega, by simpa [ones] using HOUT4.out, HOL4.out, HO4.out, B4.out⟩
        case round =>
          clear hc1
          obtain ⟨j, t5, hj, rfl, ht5, hout5, hol5, ho5, hB5⟩ := hrel
          have HOUT5 := Lib.hid hout5
          have HOL5 := Lib.hid hol5
          have HO5 := Lib.hid ho5
          obtain ⟨Ap, cp, rfl, hpc, hcp⟩ := own_slice hout5
          unfold maxLen at hcp
          have hsz5 := hB5.size
          have HN1 := Lib.hid (own_ne_type hout5 hol5 (by decide))
          have HN2 := Lib.hid (own_ne_type hout5 ho5 (by decide))
          by_cases hjl : j < n4
          · obtain ⟨b2, off2, hl2, hA2, hb2, hc2⟩ := (Rds.of_own ho5).int_at hjl
            have HAL2 := Lib.hid hA2
            subst hA2
            have HT2 := Lib.hid (ones_snoc (orb p) j hl2)
            obtain ⟨x, hx⟩ : ∃ x, x = (orb p)[j] := ⟨_, rfl⟩
            rw [← hx] at hc2 HT2
            clear hx hout5 hol5 ho5
            have j2 : (j : Int) < (n4 : Int) := by omega
            have R := Lib.hid (Rds.new wr 2 1 #[.int .i64 x, .int .i64 x] 44 (rngs [(x, x)]) rfl rfl)
            go_wp2_with (at_builtin; refine app_rngs (.tmp 32) (.tmp 36) (base := w.heap.size) (HOUT5.out.alloc _) R.out (by omega) (by simp; omega) rfl rfl rfl rfl ?_; intro v3 w3 hown3 hg3 hat3)
            go_roundw
            case rel => exact ⟨j + 1, t5 + 1, by omega, by go_num, by omega, by rw [HT2.out, ← List.append_assoc]; exact hown3, own_kept (HOL5.out.alloc _) hg3 HN1.out, own_kept (HO5.out.alloc _) hg3 HN2.out, grown_own (hB5.alloc (by omega) _) (HOUT5.out.alloc _) hg3 (Nat.le_refl _) (by simp; omega)⟩
            case measure => simp [intOf]; omega
          · obtain rfl : j = n4 := by omega
            have HTT := Lib.hid (show (orb p).take j = orb p from List.take_of_length_le (by rw [← HN4.out]; exact Nat.le_refl _))
            go_wp2
            go_roundw
            case rel => exact ⟨k + 1, t5, by omega, by go_num, by omega, by rw [HT.out, HM.out, if_pos rfl]; have := HOUT5.out; rw [HTT.out] at this; exact this, HOL5.out, hB5⟩
            case measure => simp [intOf]; omega
    · obtain rfl : k = nl := by omega
      have HTT := Lib.hid (show L.take k = L from List.take_of_length_le (by rw [← HNL.out]; exact Nat.le_refl _))
      have HOK := Lib.hid (foldL_ok (a := a) HC.out.1 (L := L) (fun x hx => (HL.out x).1 hx))
      go_wp2_with fail
      refine (raw72 (Lib.hid sortC) (foldL a L) Ao t co wr (by omega) HOK.out (by have := Rds.of_own HOUT.out; rwa [HTT.out] at this)).mono ?_
      rintro e w5 ⟨out, hs, hl, hown⟩
      obtain ⟨A5, n5, c5, rfl, hown, hb5⟩ := hown
      go_wp2
      go_ret
      exact ⟨out, ⟨hs.1, fun q => (hs.2 q).trans (mem_same HL.out a q)⟩, by omega, ownRngs_of rfl (own_mono hown hsz) (hB.trans (hb5.mono hsz))⟩
set_option maxHeartbeats 1000000 in
theorem clo111 (a : List (Int × Int)) (b : Nat) (A : Option Addr) (n c : Nat) (w : World) (hn : n ≤ 90000) (hcan : Can a) (ha : Rds w w.heap.size 2 A n (rngs a)) (hc : w.cell? ⟨b, 0, none⟩ = some (.slice A n c)) :
    Calls Try.prog 111 #[.pointer (some ⟨b, 0, none⟩)] w fun e w' => ∃ out, IsSet out (FoldP a) ∧ out.length ≤ n + 1600 ∧ OwnRngs w out e w' := by
  have HA := Lib.hid ha.rngs_len
  have HC := Lib.hid hcan
  clear hcan
  go_enter Try.func111, Try.ntmps111
  go_wp2_with fail
  refine (rawFold112 a A n c w hn HC.out ha).mono ?_
  rintro e w1 ⟨out, hs, hl, A1, n1, c1, rfl, hown, hb⟩
  go_wp2
  go_ret
  exact ⟨out, hs, hl, A1, n1, c1, rfl, hown, hb⟩
set_option maxRecDepth 100000 in
set_option maxHeartbeats 1000000 in
theorem fold67 (a : List (Int × Int)) (A : Option Addr) (n c : Nat) (w : World) (hnc : n ≤ c) (hc : c ≤ maxLen) (ha : Rds w w.heap.size 2 A n (rngs a)) :
    Calls Try.prog 67 #[.slice A n c] w (WOut w (FoldP a) (n + 1600) (chk a)) := by
  have HA := Lib.hid ha.rngs_len
  have HX := Lib.hid (chkL_one a)
  have EG := Lib.hid (show ∀ args w, (callFunc 111 args).run Try.prog w = .ok (.enter 111 args) w from enters_of Try.func111 (by kernel_rfl) rfl)
  go_enter Try.func67, Try.ntmps67
  go_wp2_with fail
  have hb0 : Below w.heap.size w ((w.alloc (.cells #[.slice A n c] 22)).alloc (.cells #[.slice A n c] 22)) := by go_grown
  have hz : ((w.alloc (.cells #[.slice A n c] 22)).alloc (.cells #[.slice A n c] 22)).heap.size = w.heap.size + 1 + 1 := by simp
  have hbx : ((w.alloc (.cells #[.slice A n c] 22)).alloc (.cells #[.slice A n c] 22)).cell? ⟨w.heap.size, 0, none⟩ = some (.slice A n c) := by
    rw [World.cell?_alloc_lt _ _ _ (by simp)]; simp
  have hrow := (Rds.new (w.alloc (.cells #[.slice A n c] 22)) 1 1 #[.slice A n c] 22 [.slice A n c] rfl rfl)
  rw [show (w.alloc (.cells #[.slice A n c] 22)).heap.size = w.heap.size + 1 by simp] at hrow
  refine (with76 [a] [.slice A n c] (chk a) HX.out _ 1 1 _ (by decide) (hrow.more (by omega)) ((sls_one hnc hc ha).below hb0 (Nat.le_refl _) |>.more (by omega))
    111 #[.pointer (some ⟨w.heap.size, 0, none⟩)] (FoldP a) (n + 1600) EG.out ?_).mono ?_
  · intro h0 w' hw
    have hk := (chk_ok a).1 h0
    have hnA := HA.out
    exact clo111 a _ A n c w' (by omega) hk.2 (((ha.below hb0 (Nat.le_refl _)).below hw (by omega)).more (by have := hw.size; omega)) (by rw [hw.cell (p := ⟨w.heap.size, 0, none⟩) (by show w.heap.size < _; omega)]; exact hbx)
  · rintro e w1 ⟨o0, h0, out, A1, n1, c1, rfl, h1, h2, hown, hb⟩
    have HF := Lib.hid (show WOut w (FoldP a) (n + 1600) (chk a) _ w1 from ⟨o0, h0, out, A1, n1, c1, rfl, h1, h2, own_mono hown (by omega), hb0.trans (hb.mono (by omega))⟩)
    clear h0 h1 h2
    generalize (if chk a = 0 then if 400 < o0.length then (2 : Int) else 0 else chk a) = E at HF ⊢
    go_wp2
    go_ret2
    exact HF.out
theorem foldS (a : List (Int × Int)) (A : Option Addr) (n c : Nat) (w : World) (hnc : n ≤ c) (hc : c ≤ maxLen) (ha : Rds w w.heap.size 2 A n (rngs a)) :
    Calls Try.prog 67 #[.slice A n c] w (SRes w (FoldP a) (chk a)) := (fold67 a A n c w hnc hc ha).mono fun _ _ h => sres_of h
/-- folded twice is folded once -/
theorem foldP_twice {a x : List (Int × Int)} (ha : ∀ q, mem a q → 0 ≤ q ∧ q ≤ 1114111) (hx : ∀ q, mem x q ↔ FoldP a q) (q : Int) : FoldP x q ↔ FoldP a q := by
  constructor
  · rintro (h | ⟨p, hp, hm, hq⟩)
    · exact (hx q).1 h
    · rcases (hx p).1 hm with h | ⟨p2, hp2, hm2, hq2⟩
      · exact .inr ⟨p, hp, h, hq⟩
      · obtain ⟨y, hy⟩ := hp2
        have hr := bes_rng hy
        have := ((orb_facts p2 hr.1 hr.2).2 p hq2).2
        exact .inr ⟨p2, ⟨y, hy⟩, hm2, by rw [← this]; exact hq⟩
  · intro h; exact .inl ((hx q).2 h)
end Go.Proofs.Ytehlijnhhbdbhaa
