/- FoldOf of the reference: walked. -/
import Derived.Test.YtpdcbddofekbcaaGreatGQ
import Derived.Test.YtpdcbddofekbcaaGreatGR
namespace Go.Proofs.YtpdcbddofekbcaaGreat
open Go.RowKit
set_option linter.unusedVariables false
theorem tbl_low : ∀ r ∈ tbl, decide (r.t + r.b < 8500) && decide (1 ≤ r.b) && decide (0 ≤ r.f) = true := by decide
theorem bes_low {p x : Int} (h : x ∈ besP p) : 0 ≤ p ∧ p < 8500 ∧ x ≠ p := by
  obtain ⟨r, hr, h⟩ := (mem_besP p x).1 h
  have := tbl_low r hr
  simp at this
  rcases h with ⟨h, _⟩ | ⟨h, _⟩ <;> rw [hit_iff] at h <;> omega
theorem bes_many {p x : Int} (h : x ∈ besP p) : 1 < (orb p).length := by
  have h1 := besP_orb h
  have h2 := self_orb p
  have h3 := (bes_low h).2.2
  cases e : orb p with
  | nil => rw [e] at h1; cases h1
  | cons a l =>
    cases l with
    | nil => rw [e] at h1 h2; rw [List.mem_singleton] at h1 h2; exact absurd (h1.trans h2.symm) h3
    | cons b l => simp
theorem many_bes' {p : Int} (h : 1 < (orb p).length) : ∃ q, q ∈ besP p := by
  cases hb : besP p with
  | nil => rw [orb_alone hb] at h; simp at h
  | cons q l => exact ⟨q, by simp⟩
def refE (a : List (Int × Int)) (p : Int) : List (Int × Int) := if (fwd p).length = 0 then [] else if (orb p).any (memB a) then ones (orb p) else []
def refL (a : List (Int × Int)) (k : Nat) : List (Int × Int) := a ++ (List.range k).flatMap fun (i : Nat) => refE a (i : Int)
theorem refL_zero (a : List (Int × Int)) : refL a 0 = a := by simp [refL]
theorem refL_succ (a : List (Int × Int)) (k : Nat) : refL a (k + 1) = refL a k ++ refE a (k : Int) := by simp [refL, List.range_succ]
theorem mem_refE (a : List (Int × Int)) (p q : Int) : mem (refE a p) q ↔ (∃ y, y ∈ fwd p) ∧ (∃ x, x ∈ orb p ∧ mem a x) ∧ q ∈ orb p := by
  unfold refE
  by_cases h : (fwd p).length = 0
  · rw [if_pos h]
    have h' := List.eq_nil_of_length_eq_zero h
    constructor
    · intro k; exact absurd k (mem_nil q)
    · rintro ⟨⟨y, hy⟩, _⟩; rw [h'] at hy; cases hy
  · rw [if_neg h]
    have hy : ∃ y, y ∈ fwd p := by
      cases e : fwd p with
      | nil => rw [e] at h; exact absurd rfl h
      | cons y l => exact ⟨y, by simp⟩
    by_cases k : (orb p).any (memB a) = true
    · rw [if_pos k, mem_ones]
      obtain ⟨x, hx, hm⟩ := List.any_eq_true.1 k
      exact ⟨fun h => ⟨hy, ⟨x, hx, (memB_iff a x).1 hm⟩, h⟩, fun h => h.2.2⟩
    · rw [if_neg k]
      constructor
      · intro k; exact absurd k (mem_nil q)
      · rintro ⟨_, ⟨x, hx, hm⟩, _⟩
        exact absurd (List.any_eq_true.2 ⟨x, hx, (memB_iff a x).2 hm⟩) k
theorem mem_refL (a : List (Int × Int)) (q : Int) : mem (refL a 8500) q ↔ FoldP a q := by
  rw [refL, mem_append]
  have hm : mem ((List.range 8500).flatMap fun (i : Nat) => refE a (i : Int)) q ↔ ∃ i : Nat, i < 8500 ∧ mem (refE a (i : Int)) q := by
    simp only [mem, List.mem_flatMap, List.mem_range]
    constructor
    · rintro ⟨r, ⟨i, hi, hr⟩, h⟩; exact ⟨i, hi, r, hr, h⟩
    · rintro ⟨i, hi, r, hr, h⟩; exact ⟨r, ⟨i, hi, hr⟩, h⟩
  rw [hm]
  constructor
  · rintro (h | ⟨i, hi, h⟩)
    · exact .inl h
    · obtain ⟨⟨y, hy⟩, ⟨x, hx, hax⟩, hq⟩ := (mem_refE a i q).1 h
      have hb := fwd_bes hy
      have hr := bes_rng hb
      have ho := ((orb_facts i hr.1 hr.2).2 x hx).2
      refine .inr ⟨x, many_bes' (by rw [ho]; exact bes_many hb), hax, by rw [ho]; exact hq⟩
  · rintro (h | ⟨p, ⟨x, hx⟩, hm, hq⟩)
    · exact .inl h
    · right
      have hp : ∃ p', p' ∈ orb p ∧ ∃ y, y ∈ fwd p' := by
        rcases bes_fwd hx with h | ⟨_, h⟩
        · exact ⟨p, self_orb p, x, h⟩
        · exact ⟨x, besP_orb hx, p, h⟩
      obtain ⟨p', hp', y, hy⟩ := hp
      have hr := bes_rng hx
      have ho := ((orb_facts p hr.1 hr.2).2 p' hp').2
      have hl := bes_low (fwd_bes hy)
      refine ⟨p'.toNat, by omega, ?_⟩
      rw [show ((p'.toNat : Nat) : Int) = p' by omega]
      exact (mem_refE a p' q).2 ⟨⟨y, hy⟩, ⟨p, by rw [ho]; exact self_orb p, hm⟩, by rw [ho]; exact hq⟩
theorem refL_ok {a : List (Int × Int)} (ha : ∀ r ∈ a, okR r = true) (k : Nat) : ∀ r ∈ refL a k, okR r = true := fun r hr => by
  rcases List.mem_append.1 hr with h | h
  · exact ha r h
  · obtain ⟨i, hi, hr⟩ := List.mem_flatMap.1 h
    unfold refE at hr
    split at hr
    · cases hr
    · split at hr
      · rename_i hf _
        obtain ⟨x, hx, rfl⟩ := List.mem_map.1 hr
        have : ∃ y, y ∈ fwd (i : Int) := by
          cases e : fwd (i : Int) with
          | nil => rw [e] at hf; exact absurd rfl hf
          | cons y l => exact ⟨y, by simp⟩
        obtain ⟨y, hy⟩ := this
        have hb := bes_rng (fwd_bes hy)
        have := ((orb_facts i hb.1 hb.2).2 x hx).1
        exact (okR_iff _).2 ⟨this.1, Int.le_refl _, this.2⟩
      · cases hr
theorem any_take (l : List Int) (f : Int → Bool) (k : Nat) (h : k < l.length) : (l.take (k + 1)).any f = ((l.take k).any f || f l[k]) := by
  rw [take_snoc' l k h, List.any_append]; simp
set_option maxRecDepth 100000 in
set_option maxHeartbeats 4000000 in
theorem foldOf68 (a : List (Int × Int)) (A : Option Addr) (n c : Nat) (w : World) (hn : n ≤ 4000) (hc : c ≤ maxLen) (hok : ∀ r ∈ a, okR r = true) (ha : Rds w w.heap.size 2 A n (rngs a)) :
    Calls Tryz.prog 15 #[.slice A n c] w fun e w' => ∃ out, IsSet out (FoldP a) ∧ out.length ≤ 80000 ∧ OwnRngs w out e w' := by
  have HOK := Lib.hid hok
  have hn0 := Lib.hid (own_new w w.heap.size 25 2 0 #[] (Nat.le_refl _) rfl (by decide))
  clear hok
  go_enter Tryz.func15, Tryz.ntmps15
  go_wp2_with (at_builtin; refine app_rngs (.tmp 9) (.tmp 10) (base := w.heap.size) (xs := []) (n := 0) (by exact hn0.out) (ha.alloc (Nat.le_refl _) _) (by omega) (by simp) rfl rfl rfl rfl ?_; intro v3 w3 hown3 hg3 hat3)
  have HO := Lib.hid hown3
  have B0 := Lib.hid (show Below w.heap.size w w3 from grown_own ((Below.refl _ _).alloc (Nat.le_refl _) _) hn0.out hg3 (Nat.le_refl _) (by simp))
  clear hown3 hg3 hat3
  obtain ⟨n0, hn0'⟩ : ∃ n0, n0 = 0 + n := ⟨_, rfl⟩
  rw [← hn0'] at HO
  have hn0n : n0 ≤ 4000 := by omega
  go_loopw [3, 4] (fun v i wr => ∃ k t : Nat, k ≤ 8500 ∧ i = .int .i64 k ∧ t ≤ n0 + 4 * k ∧ wr.ownsRow w.heap.size 25 2 v t (rngs (refL a k)) ∧ Below w.heap.size w wr) (fun _ i _ => 8500 - (intOf i).toNat)
  case atStart => exact ⟨0, n0, Nat.zero_le _, rfl, by omega, by rw [refL_zero]; simpa using HO.out, B0.out⟩
  case round =>
    obtain ⟨k, t, hk, rfl, ht, hout, hB⟩ := hrel
    have HOUT := Lib.hid hout
    obtain ⟨Ao, co, rfl, hoc, hco⟩ := own_slice hout
    unfold maxLen at hco
    have hsz := hB.size
    clear hout
    by_cases hlt : k < 8500
    · have HS := Lib.hid (refL_succ a k)
      have HF := Lib.hid (orb_facts (k : Int) (by omega) (by omega))
      have C1 := Lib.hid (beside109 (k : Int) wr (by omega))
      have C2 := Lib.hid (fun w => orbitOf62 (k : Int) w (by omega) (by omega))
      have hk2 : (k : Int) < 8500 := by omega
      go_wp2_with fail
      refine C1.out.mono ?_
      rintro e w4 ⟨A4, n4, c4, rfl, hown4, hb4⟩
      have HN4 := Lib.hid (own_ints_len hown4)
      have HOUT4 := Lib.hid (own_below HOUT.out hb4 (Nat.le_refl _))
      have B4 := Lib.hid (hB.trans (hb4.mono hsz))
      have hz4 := B4.out.size
      clear hown4 hb4 C1
      by_cases h4 : n4 = 0
      · have HE := Lib.hid (show refE a (k : Int) = [] by unfold refE; rw [if_pos (by rw [← HN4.out]; exact h4)])
        subst h4
        go_wp2
        go_roundw
        case rel => exact ⟨k + 1, t, by omega, by go_num, by omega, by rw [HS.out, HE.out, List.append_nil]; exact HOUT4.out, B4.out⟩
        case measure => simp [intOf]; omega
      · have HE := Lib.hid (show refE a (k : Int) = if (orb k).any (memB a) then ones (orb k) else [] by unfold refE; rw [if_neg (by rw [← HN4.out]; exact h4)])
        have h4b : ((n4 : Int) == 0) = false := by rw [beq_eq_false_iff_ne]; omega
        go_wp2_with fail
        refine (C2.out w4).mono ?_
        rintro e w5 ⟨A5, n5, c5, rfl, hown5, hb5⟩
        have HN5 := Lib.hid (own_ints_len hown5)
        have hn5 : n5 ≤ 4 := by rw [HN5.out]; exact HF.out.1
        have HO5 := Lib.hid (own_mono hown5 hz4)
        have HOUT5 := Lib.hid (own_below HOUT4.out hb5 (Nat.le_refl _))
        have B5 := Lib.hid (B4.out.trans (hb5.mono hz4))
        have hz5 := B5.out.size
        clear hown5 hb5 C2
        go_wp2_with fail
        go_loopw [6, 7] (fun v i wr => ∃ j q : Nat, j ≤ n5 ∧ i = .int .i64 j ∧ v = .bool (((orb k).take j).any (memB a)) ∧ wr = w5.drewN q) (fun _ i _ => n5 - (intOf i).toNat)
        case atStart => exact ⟨0, 0, Nat.zero_le _, rfl, rfl, rfl⟩
        case round =>
          obtain ⟨j, q, hj, rfl, rfl, rfl⟩ := hrel
          by_cases hjl : j < n5
          · obtain ⟨b2, off2, hl2, hA2, hb2, hc2⟩ := (Rds.of_own HO5.out).int_at hjl
            have HAL2 := Lib.hid hA2
            subst hA2
            have HT2 := Lib.hid (any_take (orb k) (memB a) j hl2)
            obtain ⟨x, hx⟩ : ∃ x, x = (orb (k : Int))[j] := ⟨_, rfl⟩
            rw [← hx] at hc2 HT2
            clear hx
            have j2 : (j : Int) < (n5 : Int) := by omega
            cases hb : ((orb (k : Int)).take j).any (memB a)
            · have HB := Lib.hid hb
              clear hb
              go_wp2_with fail
              refine (within_any a x A n c _ w5.heap.size (by unfold maxLen; omega) (((ha.below B5.out (Nat.le_refl _)).drewN q).more hz5)).mono ?_
              rintro e w6 ⟨rfl, m, rfl⟩
              go_wp2
              go_roundw
              case rel => exact ⟨j + 1, q + m, by omega, by go_num, by rw [HT2.out, HB.out]; rfl, rfl⟩
              case measure => simp [intOf]; omega
            · have HB := Lib.hid hb
              clear hb
              go_wp2
              go_roundw
              case rel => exact ⟨j + 1, q, by omega, by go_num, by rw [HT2.out, HB.out]; rfl, rfl⟩
              case measure => simp [intOf]; omega
          · obtain rfl : j = n5 := by omega
            have HTT := Lib.hid (show (orb (k : Int)).take j = orb k from List.take_of_length_le (by rw [← HN5.out]; exact Nat.le_refl _))
            rw [HTT.out]
            have HOUT6 := Lib.hid (show (w5.drewN q).ownsRow w.heap.size 25 2 (.slice Ao t co) t (rngs (refL a k)) from HOUT5.out)
            cases hb : (orb (k : Int)).any (memB a)
            · have HB := Lib.hid hb
              clear hb
              go_wp2_with fail
              go_loopw [3, 8] (fun v i wr => v = .slice Ao t co ∧ i = .int .i64 0 ∧ wr = w5.drewN q) (fun _ i _ => 0)
              case atStart => exact ⟨rfl, rfl, rfl⟩
              case round =>
                obtain ⟨rfl, rfl, rfl⟩ := hrel
                go_wp2
                all_goals first
                  | (refine ⟨⟨k + 1, t, by omega, by go_num, by omega, by rw [HS.out, HE.out, HB.out]; simpa using HOUT6.out, below_drewN B5.out _⟩, ?_⟩; simp [intOf]; omega)
                  | skip
            · have HB := Lib.hid hb
              clear hb
              go_wp2_with fail
              go_loopw [3, 8] (fun v i wr => ∃ j' t : Nat, j' ≤ j ∧ i = .int .i64 j' ∧ t ≤ n0 + 4 * k + j' ∧ wr.ownsRow w.heap.size 25 2 v t (rngs (refL a k ++ ones ((orb k).take j'))) ∧ wr.ownsRow w.heap.size 3 1 (.slice A5 j c5) j (ints (orb k)) ∧ Below w.heap.size w wr) (fun _ i _ => j - (intOf i).toNat)
              case atStart => exact ⟨0, t, Nat.zero_le _, rfl, by omega, by simpa [ones] using HOUT6.out, HO5.out, below_drewN B5.out _⟩
              case round =>
                obtain ⟨j', t6, hj', rfl, ht6, hout6, ho6, hB6⟩ := hrel
                have HOUT6 := Lib.hid hout6
                have HO6 := Lib.hid ho6
                obtain ⟨Ap, cp, rfl, hpc, hcp⟩ := own_slice hout6
                unfold maxLen at hcp
                have hsz6 := hB6.size
                have HN1 := Lib.hid (own_ne_type hout6 ho6 (by decide))
                by_cases hjl' : j' < j
                · obtain ⟨b2, off2, hl2, hA2, hb2, hc2⟩ := (Rds.of_own ho6).int_at hjl'
                  have HAL2 := Lib.hid hA2
                  subst hA2
                  have HT2 := Lib.hid (ones_snoc (orb k) j' hl2)
                  obtain ⟨x, hx⟩ : ∃ x, x = (orb (k : Int))[j'] := ⟨_, rfl⟩
                  rw [← hx] at hc2 HT2
                  clear hx hout6 ho6
                  have j2 : (j' : Int) < (j : Int) := by omega
                  have j0 : (0 : Int) ≤ (j' : Int) := by omega
                  have R := Lib.hid (Rds.new wr 2 1 #[.int .i64 x, .int .i64 x] 25 (rngs [(x, x)]) rfl rfl)
                  have HNB := Lib.hid (show (some b2 : Option Nat) ≠ (Value.slice Ap t6 cp).ownBlock from fun e => HN1.out b2 e.symm rfl)
                  have hn1 := World.new_ne wr
                  go_wp2_with fail
                  go_region_held3 (fun w' => w'.cell? ⟨b2, off2 + j', none⟩ = some (.int .i64 x))
                    (first
                      | (exact (by simpa using hc2))
                      | (go_split_ands; exact hg3.cell (by assumption) HNB.out)
                      | go_keep
                      | (go_split_ands; trace_state; fail))
                    (first
                      | (refine step_app_rngs (.tmp 46) (.tmp 56) (HOUT6.out.alloc _) R.out (by omega) (by simp; omega) rfl rfl rfl rfl ?_; intro v3 w3 hown3 hg3 hat3))
                  clear hn1
                  go_wp2
                  go_roundw
                  case rel => exact ⟨j' + 1, t6 + 1, by omega, by go_num, by omega, by rw [HT2.out, ← List.append_assoc]; exact hown3, by first | exact own_kept (HO6.out.alloc _) hg3 HN1.out | exact own_kept (World.ownsRow.alloc (w := wr.drew) HO6.out _) hg3 HN1.out, by first | exact grown_own (hB6.alloc hsz6 _) (HOUT6.out.alloc _) hg3 (Nat.le_refl _) (by simp; omega) | exact grown_own (hB6.alloc hsz6 _).drew (HOUT6.out.alloc _) hg3 (Nat.le_refl _) (by simp; omega)⟩
                  case measure => simp [intOf]; omega
                · obtain rfl : j' = j := by omega
                  go_wp2
                  go_roundw
                  case rel => exact ⟨k + 1, t6, by omega, by go_num, by omega, by rw [HS.out, HE.out, HB.out, if_pos rfl]; have := HOUT6.out; rw [HTT.out] at this; exact this, hB6⟩
                  case measure => simp [intOf]; omega
    · obtain rfl : k = 8500 := by omega
      have HK := Lib.hid (refL_ok (a := a) HOK.out 8500)
      go_wp2_with fail
      refine (makeOf_any (refL a 8500) Ao t co wr (by omega) (by unfold maxLen; omega) HK.out (Rds.of_own HOUT.out)).mono ?_
      rintro e w7 ⟨out, hs, hl, A7, n7, c7, rfl, hown, hb7⟩
      go_wp2
      go_ret
      exact ⟨out, ⟨hs.1, fun q => (hs.2 q).trans (mem_refL a q)⟩, by omega, ownRngs_of rfl (own_mono hown hsz) (hB.trans (hb7.mono hsz))⟩
end Go.Proofs.YtpdcbddofekbcaaGreat
