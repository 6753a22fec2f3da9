/-
  RawNot of the program, walked: a right set of just the points that the other one lacks.
-/
import Derived.Test.YtbiahhojnjchnaaGreatSetF
import Derived.Test.YtbiahhojnjchnaaGreatGC
set_option linter.unusedVariables false
set_option linter.unusedSimpArgs false
namespace Go.Proofs.YtbiahhojnjchnaaGreat
open Go.RowKit
structure NotSt (out pre : List (Int × Int)) (next : Int) : Prop where
  set : IsSet out fun p => 0 ≤ p ∧ p < next ∧ ¬ mem pre p
  lo : 0 ≤ next
  hi : next ≤ 1114112
  all : ∀ p, mem pre p → p < next
  last : next = 0 ∨ mem pre (next - 1)
theorem NotSt.start : NotSt [] [] 0 := ⟨⟨Can.nil, fun p => ⟨fun h => absurd h (mem_nil p), fun h => by omega⟩⟩, by omega, by omega, fun p h => absurd h (mem_nil p), .inl rfl⟩
theorem NotSt.gap {out pre : List (Int × Int)} {next : Int} (h : NotSt out pre next) : ∀ s ∈ out, s.2 + 2 ≤ next := by
  intro s hs
  have hr := (okR_iff s).1 (h.set.1.1 s hs)
  have hm := (h.set.2 s.2).1 ⟨s, hs, by omega, Int.le_refl _⟩
  rcases h.last with e | e
  · omega
  · by_cases hh : s.2 = next - 1
    · exact absurd (by rw [hh]; exact e) hm.2.2
    · omega
theorem NotSt.put {out pre : List (Int × Int)} {next : Int} (h : NotSt out pre next) {r : Int × Int} (hr : okR r = true) (hn : next ≤ r.1) : NotSt (if next < r.1 then out ++ [(next, r.1 - 1)] else out) (pre ++ [r]) (r.2 + 1) := by
  have hr' := (okR_iff r).1 hr
  have hm : ∀ p, mem (pre ++ [r]) p ↔ mem pre p ∨ (r.1 ≤ p ∧ p ≤ r.2) := fun p => by
    rw [mem_append, mem_cons]
    have := mem_nil p
    simp only [this, or_false]
  refine ⟨?_, by omega, by omega, fun p hp => ?_, .inr ?_⟩
  · by_cases hlt : next < r.1
    · rw [if_pos hlt]
      refine ⟨h.set.1.snoc (by rw [okR_iff]; have := h.lo; simp; omega) h.gap, fun p => ?_⟩
      show mem (out ++ [(next, r.1 - 1)]) p ↔ (0 ≤ p ∧ p < r.2 + 1 ∧ ¬ mem (pre ++ [r]) p)
      rw [hm, mem_append, mem_cons, h.set.2 p]
      have h0 := mem_nil p
      have h1 := h.all p
      have h2 := h.lo
      simp only [h0, or_false, not_or]
      constructor
      · rintro (⟨a, b, c⟩ | ⟨a, b⟩)
        · exact ⟨a, by omega, c, by omega⟩
        · exact ⟨by omega, by omega, fun k => by have := h1 k; omega, by omega⟩
      · rintro ⟨a, b, c, d⟩
        by_cases hp : p < next
        · exact .inl ⟨a, hp, c⟩
        · exact .inr ⟨by omega, by omega⟩
    · rw [if_neg hlt]
      refine ⟨h.set.1, fun p => ?_⟩
      show mem out p ↔ (0 ≤ p ∧ p < r.2 + 1 ∧ ¬ mem (pre ++ [r]) p)
      rw [hm, h.set.2 p]
      have h1 := h.all p
      simp only [not_or]
      constructor
      · rintro ⟨a, b, c⟩; exact ⟨a, by omega, c, by omega⟩
      · rintro ⟨a, b, c, d⟩; exact ⟨a, by omega, c⟩
  · rcases (hm p).1 hp with k | k
    · have := h.all p k; omega
    · omega
  · rw [hm]; exact .inr ⟨by omega, by omega⟩
theorem NotSt.next_le {a : List (Int × Int)} (hc : Can a) (k : Nat) (hk : k < a.length) {out : List (Int × Int)} {next : Int} (h : NotSt out (a.take k) next) : next ≤ (a[k]).1 := by
  have hr := (okR_iff _).1 (hc.1 _ (List.getElem_mem hk))
  rcases h.last with e | ⟨s, hs, h1, h2⟩
  · omega
  · obtain ⟨i, hi, rfl⟩ := List.mem_iff_getElem.1 hs
    simp at hi h1 h2
    have := List.pairwise_iff_getElem.1 hc.2 i k (by omega) hk (by omega)
    omega
theorem NotSt.fin {a out : List (Int × Int)} {next : Int} (h : NotSt out a next) : IsSet (if next ≤ 1114111 then out ++ [(next, 1114111)] else out) fun p => 0 ≤ p ∧ p ≤ 1114111 ∧ ¬ mem a p := by
  have h0 := h.lo
  by_cases hn : next ≤ 1114111
  · rw [if_pos hn]
    refine ⟨h.set.1.snoc (by rw [okR_iff]; simp; omega) h.gap, fun p => ?_⟩
    show mem (out ++ [(next, 1114111)]) p ↔ (0 ≤ p ∧ p ≤ 1114111 ∧ ¬ mem a p)
    rw [mem_append, mem_cons, h.set.2 p]
    have h1 := mem_nil p
    have h2 := h.all p
    simp only [h1, or_false]
    constructor
    · rintro (⟨a, b, c⟩ | ⟨a, b⟩)
      · exact ⟨a, by omega, c⟩
      · exact ⟨by omega, b, fun k => by have := h2 k; omega⟩
    · rintro ⟨a, b, c⟩
      by_cases hp : p < next
      · exact .inl ⟨a, hp, c⟩
      · exact .inr ⟨by omega, b⟩
  · rw [if_neg hn]
    refine ⟨h.set.1, fun p => ?_⟩
    show mem out p ↔ (0 ≤ p ∧ p ≤ 1114111 ∧ ¬ mem a p)
    rw [h.set.2 p]
    constructor
    · rintro ⟨a, b, c⟩; have := h.hi; exact ⟨a, by omega, c⟩
    · rintro ⟨a, b, c⟩; exact ⟨a, by omega, c⟩
set_option maxRecDepth 100000 in
set_option maxHeartbeats 2000000 in
theorem rawNot78 (a : List (Int × Int)) (A : Option Addr) (n c : Nat) (w : World) (hn : n ≤ 100000) (hcan : Can a) (ha : Rds w w.heap.size 2 A n (rngs a)) :
    Calls Tryz.prog 69 #[.slice A n c] w fun e w' => ∃ out, (IsSet out fun p => 0 ≤ p ∧ p ≤ 1114111 ∧ ¬ mem a p) ∧ out.length ≤ n + 1 ∧ OwnRngs w out e w' := by
  have HA := Lib.hid ha.rngs_len
  have HCAN := Lib.hid hcan
  clear hcan
  go_enter Tryz.func69, Tryz.ntmps69
  go_wp2_with fail
  go_loopw [3, 4, 9] (fun v x i wr => ∃ (k t : Nat) (out : List (Int × Int)) (next : Int), k ≤ n ∧ i = .int .i64 k ∧ x = .int .i64 next ∧ t ≤ k ∧ NotSt out (a.take k) next ∧ wr.ownsRow w.heap.size 67 2 v t (rngs out) ∧ Below w.heap.size w wr) (fun _ _ i _ => n - (intOf i).toNat)
  case atStart => exact ⟨0, 0, [], 0, Nat.zero_le _, rfl, rfl, Nat.le_refl _, NotSt.start, World.ownsRow_nil _ _ _ _, Below.refl _ _⟩
  case round =>
    obtain ⟨k, t, out, next, hk, rfl, rfl, ht, hst, hout, hB⟩ := hrel
    obtain ⟨Ao, co, rfl, hoc, hco⟩ := own_slice hout
    unfold maxLen at hco
    have n0 := hst.lo
    have n1 := hst.hi
    have hsz := hB.size
    have HST := Lib.hid hst
    clear hst
    by_cases hlt : k < n
    · obtain ⟨b1, off1, hl1, hA, hb1, hc1, hd1⟩ := (ha.below hB (Nat.le_refl _)).rng_at hlt
      subst hA
      have HT := Lib.hid (take_snoc' a k hl1)
      have hr := HCAN.out.1 _ (List.getElem_mem hl1)
      have HLE := Lib.hid (HST.out.next_le HCAN.out k hl1)
      obtain ⟨p, hp⟩ : ∃ p, p = a[k] := ⟨_, rfl⟩
      rw [← hp] at hc1 hd1 HT hr HLE
      clear hp
      have hr' := (okR_iff p).1 hr
      have HNEXT := Lib.hid (HST.out.put hr HLE.out)
      clear hr
      obtain ⟨x, y⟩ := p
      simp only at hc1 hd1 hr'
      obtain ⟨r0, r1, r2⟩ := hr'
      by_cases hnx : next < x
      · have R0 := Rds.new (wr.alloc (.cells #[.int .i64 x, .int .i64 y] 67)) 2 1 #[.int .i64 next, .int .i64 (x - 1)] 67 (rngs [(next, x - 1)]) rfl rfl
        rw [show (wr.alloc (.cells #[.int .i64 x, .int .i64 y] 67)).heap.size = wr.heap.size + 1 by simp] at R0
        have R := Lib.hid R0
        clear R0
        have HNB := Lib.hid (show (some wr.heap.size : Option Nat) ≠ (Value.slice Ao t co).ownBlock from fun e => by have := hout.lt _ e.symm; omega)
        go_wp2_with (at_builtin; refine app_rngs (.tmp 17) (.tmp 23) (base := w.heap.size) (by exact (hout.alloc _).alloc _) R.out (by omega) (by simp; omega) rfl rfl rfl rfl ?_; intro v3 w3 hown3 hg3 hat3; have hk3 := hg3.cell (a := ⟨wr.heap.size, 1, none⟩) (v := .int .i64 y) (by simp) HNB.out)
        go_roundw
        case rel => exact ⟨k + 1, t + 1, _, y + 1, by omega, by go_num, rfl, by omega, (by have := HNEXT.out; rw [if_pos hnx] at this; rw [HT.out]; exact this), hown3, ((hB.alloc hsz _).alloc (by simp; omega) _).grown hg3 (by simp; omega) (fun g hg => (hout.lt g hg).1)⟩
        case measure => simp [intOf]; omega
      · go_wp2
        go_roundw
        case rel => exact ⟨k + 1, t, _, y + 1, by omega, by go_num, rfl, by omega, (by have := HNEXT.out; rw [if_neg hnx] at this; rw [HT.out]; exact this), hout.alloc _, hB.alloc hsz _⟩
        case measure => simp [intOf]; omega
    · obtain rfl : k = n := by omega
      have HT := Lib.hid (show a.take k = a from List.take_of_length_le (by rw [HA.out]; exact Nat.le_refl _))
      have HFIN := Lib.hid (show NotSt out a next by have := HST.out; rwa [HT.out] at this)
      by_cases hnx : next ≤ 1114111
      · have R := Lib.hid (Rds.new wr 2 1 #[.int .i64 next, .int .i64 1114111] 67 (rngs [(next, 1114111)]) rfl rfl)
        go_wp2_with (at_builtin; refine app_rngs (.tmp 31) (.tmp 34) (base := w.heap.size) (by exact hout.alloc _) R.out (by omega) (by simp; omega) rfl rfl rfl rfl ?_; intro v3 w3 hown3 hg3 hat3)
        go_ret
        exact ⟨_, (by have := HFIN.out.fin; rw [if_pos hnx] at this; exact this), by have := own_rngs_len hout; simp; omega, ownRngs_of rfl hown3 ((hB.alloc hsz _).grown hg3 (by simp; omega) (fun g hg => (hout.lt g hg).1))⟩
      · go_wp2
        go_ret
        exact ⟨_, (by have := HFIN.out.fin; rw [if_neg (by omega)] at this; exact this), by have := own_rngs_len hout; omega, ownRngs_of rfl hout hB⟩
end Go.Proofs.YtbiahhojnjchnaaGreat
