/- A pattern of letters up to a ], parsed as a bracket expression: walked. -/
import Derived.Test.YtoilhjpbkbdifaaGreatBrG
import Derived.Test.YtoilhjpbkbdifaaGreatBrS
set_option linter.unusedVariables false
set_option linter.unusedSimpArgs false
namespace Go.Proofs.YtoilhjpbkbdifaaGreat
open Go.RowKit
theorem rightE_plain {d ee : Int} {l : List Int} (h1 : 1 ≤ d) (h3 : d ≤ 3) (hl : l.length ≤ 300) (hok : l.all okPt = true) : rightE d l = 0 := by
  unfold rightE; rw [if_neg (by omega), if_neg (by omega), if_pos hok]
set_option maxHeartbeats 4000000 in
set_option maxRecDepth 100000 in
theorem parse_bad {d : Int} {A : Option Addr} {l : List Int} {n c : Nat} {w : World} (hd : d < 1 ∨ 3 < d) (hn : n ≤ 300) (ha : Rds w w.heap.size 1 A n (ints l)) :
    Calls Tryz.prog 6 #[.int .i64 d, .slice A n c, .int .i64 0, .bool false] w fun e w' => e = .returned (.tuple #[.slice none 0 0, .int .i64 0, .agg #[.int .i64 7, .int .i64 0]]) ∧ Below w.heap.size w w' := by
  have C := Lib.hid (right14 d l A n c (w.heap.size + 1) (w.alloc (.cells #[.int .i64 0, .int .i64 0] 30)) (by unfold maxLen; omega) ((ha.alloc (Nat.le_refl _) _).more (by omega)))
  rw [show rightE d l = 7 by unfold rightE; rw [if_pos hd]] at C
  clear ha
  go_enter Tryz.func6, Tryz.ntmps6
  go_upto_region 5 with (go_at_call 11; (with_reducible refine C.out.mono ?_); rintro e w' ⟨rfl, rfl⟩)
  repeat (first | go_values | go_skip | go_guarded | go_step | go_upon | (simp only []))
  (try simp only [Exit.inBlock, Exit.then])
  refine bodyPost_ret (v := .tuple #[.slice none 0 0, .int .i64 0, .agg #[.int .i64 7, .int .i64 0]]) ?_ rfl ?_
  · simp [results, Tryz.results6, go_sem]
  · exact ⟨rfl, by (repeat' (first | (with_reducible exact Below.refl _ _) | (with_reducible refine Below.setCell ?_ (by simp <;> omega) _) | (with_reducible refine Below.alloc ?_ (by simp <;> omega) _)))⟩
set_option maxHeartbeats 4000000 in
set_option maxRecDepth 100000 in
theorem parse_good (HSORT : Hid SortC) {d ee : Int} {A : Option Addr} {l : List Int} {n c : Nat} {w : World} {D : List (Int × Int)} (hd1 : 1 ≤ d) (hd3 : d ≤ 3) (hok : l.all okPt = true) (hs : Spans l 0 D ee) (hD : D ≠ []) (hDn : D.length ≤ 300) (hn : n ≤ 300) (hc : n ≤ c) (ha : Rds w w.heap.size 1 A n (ints l)) :
    Calls Tryz.prog 6 #[.int .i64 d, .slice A n c, .int .i64 0, .bool false] w fun e w' => ∃ out A' n', IsSet out (mem D) ∧ out.length ≤ D.length ∧ e = .returned (.tuple #[.slice A' n' n', .int .i64 (ee + 1), .agg #[.int .i64 0, .int .i64 0]]) ∧ Rds w' w'.heap.size 2 A' n' (rngs out) ∧ Below w.heap.size w w' := by
  have HLN := ha.ints_len
  obtain ⟨W, hW⟩ : ∃ X, X = w.alloc (.cells #[.int .i64 0, .int .i64 0] 30) := ⟨_, rfl⟩
  have hB : Below w.heap.size w W := by rw [hW]; exact (Below.refl _ _).alloc (Nat.le_refl _) _
  have hsW : W.heap.size = w.heap.size + 1 := by rw [hW]; simp
  have hz : W.heap[w.heap.size]? = some (.cells #[.int .i64 0, .int .i64 0] 30 (0, 0)) := by rw [hW]; exact heap_alloc_new w _
  have hA := (ha.below hB (Nat.le_refl _)).more (B' := W.heap.size) (by omega)
  have C := Lib.hid (right14 d l A n c W.heap.size W (by unfold maxLen; omega) hA)
  rw [rightE_plain hd1 hd3 (by omega) hok (ee := ee)] at C
  have R := Lib.hid (raw_plain HSORT (d := d) (c := c) hs hD hDn hn hc hA)
  have HB := Lib.hid hB
  have HZ := Lib.hid hz
  have n0 : (decide ((n : Int) < 0)) = false := decide_eq_false (by omega)
  clear ha hA hB hz
  go_enter Tryz.func6, Tryz.ntmps6
  go_upto_region 1 with (fail)
  rw [← hW]
  clear hW
  go_upto_region 6 with (go_at_call 11; (with_reducible refine C.out.mono ?_); rintro e w' ⟨rfl, rfl⟩)
  repeat (first | (go_big_may; go_says (go_at_call 12; (with_reducible refine R.out.mono ?_); rintro e w2 ⟨out, A', n', hset, hln, rfl, hr, hb⟩; have HSET := Lib.hid hset; have HR2 := Lib.hid hr; have HB2 := Lib.hid (HB.out.trans (hb.mono (by omega))); have HZ2 := Lib.hid (row_next HZ.out hb); have f0 := cell_of_row _ _ 0 _ _ _ HZ2.out; have f1 := cell_of_row _ _ 1 _ _ _ HZ2.out; have g0 := frozen_row (o := 0) HZ2.out; have g1 := frozen_row (o := 1) HZ2.out; clear hset hr hb)) | go_values | go_skip | go_guarded | go_step | go_upon | (simp only []))
  (try simp only [Exit.inBlock, Exit.then])
  have hV : ((w2.setCell ⟨w.heap.size, 0, none⟩ (.int .i64 0)).setCell ⟨w.heap.size, 1, none⟩ (.int .i64 0)).heap[w.heap.size]? = some (.cells #[.int .i64 0, .int .i64 0] 30 (0, 0)) := put1 (put1 HZ2.out rfl) rfl
  have hsame : ∀ k : Nat, ((w2.setCell ⟨w.heap.size, 0, none⟩ (.int .i64 0)).setCell ⟨w.heap.size, 1, none⟩ (.int .i64 0)).heap[k]? = w2.heap[k]? := by
    intro k
    by_cases hk : k = w.heap.size
    · rw [hk, hV, HZ2.out]
    · rw [Below.heap_setCell _ _ _ _ hk, Below.heap_setCell _ _ _ _ hk]
  have HBV := Lib.hid ((HB2.out.setCell (p := ⟨w.heap.size, 0, none⟩) (Nat.le_refl _) (.int .i64 0)).setCell (p := ⟨w.heap.size, 1, none⟩) (Nat.le_refl _) (.int .i64 0))
  obtain ⟨V, hVV⟩ : ∃ X, X = (w2.setCell ⟨w.heap.size, 0, none⟩ (.int .i64 0)).setCell ⟨w.heap.size, 1, none⟩ (.int .i64 0) := ⟨_, rfl⟩
  rw [← hVV] at hV HBV ⊢
  have hsz : V.heap.size = w2.heap.size := by rw [hVV]; simp [World.setCell]
  have HRV := Lib.hid (show Rds V V.heap.size 2 A' n' (rngs out) by rw [hsz]; exact HR2.out.keep fun p _ => World.cell?_of_block (by rw [hVV]; exact hsame p.block))
  clear hsame hVV f0 f1 g0 g1
  have f0 := cell_of_row _ _ 0 _ _ _ hV
  have f1 := cell_of_row _ _ 1 _ _ _ hV
  simp at f0 f1
  refine bodyPost_ret (v := .tuple #[.slice A' n' n', .int .i64 (ee + 1), .agg #[.int .i64 0, .int .i64 0]]) ?_ rfl ?_
  · simp [results, Tryz.results6, go_sem, f0, f1]
  · exact ⟨out, A', n', HSET.out, hln, rfl, HRV.out, HBV.out⟩
end Go.Proofs.YtoilhjpbkbdifaaGreat
