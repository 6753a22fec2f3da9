/- A span of a bracket expression: a letter, or two with a - between them: walked. -/
import Derived.Test.YtoilhjpbkbdifaaGreatBrC
set_option linter.unusedVariables false
set_option linter.unusedSimpArgs false
namespace Go.Proofs.YtoilhjpbkbdifaaGreat
open Go.RowKit
/-- what a span leaves: a row of one range, and the reader behind it -/
def SpanOut (b n c : Nat) (d : Int) (fo : Bool) (dp : Int) (A : Option Addr) (l : List Int) (nx lo hi : Int) (w : World) (e : Ending) (w' : World) : Prop :=
  ∃ g, e = .returned (.slice (some ⟨g, 0, none⟩) 1 1) ∧ w'.heap[g]? = some (.cells #[.int .i64 lo, .int .i64 hi] 27 (0, 0)) ∧ w.heap.size ≤ g ∧ BSt b n c d fo dp A l nx w' ∧ Kept b w w'
theorem says1 {l : List Int} {at_ x p : Int} (h : ptAt l at_ = p) : saysB l at_ [x] = decide (p = x) := by simp [saysB, h]
set_option maxRecDepth 100000 in
set_option maxHeartbeats 8000000 in
theorem span_one {b n c : Nat} {d dp at_ : Int} {fo : Bool} {A : Option Addr} {l : List Int} {w : World} (h : BSt b n c d fo dp A l at_ w) (p : Int) (hp : ptAt l at_ = p) (h48 : 48 ≤ p) (h91 : p ≠ 91) (h92 : p ≠ 92) (hq : ptAt l (at_ + 1) ≠ 45) :
    Calls Tryz.prog 32 #[.pointer (some ⟨b, 0, none⟩)] w (SpanOut b n c d fo dp A l (at_ + 1) p p w) := by
  have C := Lib.hid (one_single h p hp h48 h91 h92)
  have N45 := Lib.hid (show saysB l (at_ + 1) [45] = false by simp [saysB, hq])
  have hlt := h.lt
  clear h hp hq
  go_enter Tryz.func32, Tryz.ntmps32
  go_upto_region 2 with (first
    | (go_at_call 39; (with_reducible refine C.out.mono ?_); rintro e w1 ⟨g, rfl, hg, hgs, hS, hk⟩))
  obtain ⟨W2, hW2⟩ : ∃ X, X = w1.alloc (.cells #[.slice (some ⟨g, 0, none⟩) 1 1, .int .i64 p] 61) := ⟨_, rfl⟩
  have hb2 : Below w1.heap.size w1 W2 := by rw [hW2]; exact (Below.refl _ _).alloc (Nat.le_refl _) _
  have HS2 := Lib.hid (hS.next hb2)
  have HG2 := Lib.hid (row_next hg hb2)
  have HK2 := Lib.hid (hk.trans (Kept.of hb2))
  have HC2 := Lib.hid (show W2.heap[w1.heap.size]? = some (.cells #[.slice (some ⟨g, 0, none⟩) 1 1, .int .i64 p] 61 (0, 0)) by rw [hW2]; exact heap_alloc_new w1 _)
  rw [← hW2]
  clear hW2 hS hg hk hb2 C
  go_upto_region 3 with (first
    | (go_at_call 30; (with_reducible refine (BSt.is_ (cc := 1) (m := 1) (cs := [45]) (HS2.out.next ((Below.refl _ _).alloc (Nat.le_refl _) _)) false N45.out (runes_new W2 [45] #[.int .i32 45] 1 rfl rfl) (by simp) (by decide)).mono ?_); rintro e w4 ⟨rfl, q4, hq4⟩; have hb4 : Below W2.heap.size W2 w4 := (by rw [hq4]; exact below_drewN ((Below.refl _ _).alloc (Nat.le_refl _) _) _); have HS4 := Lib.hid (HS2.out.next hb4); have HG4 := Lib.hid (row_next HG2.out hb4); have HC4 := Lib.hid (row_next HC2.out hb4); have HK4 := Lib.hid (HK2.out.trans (Kept.of hb4)); clear hq4 hb4))
  have c0 := cell_of_row _ _ 0 _ _ _ HC4.out
  go_wp2_with fail
  go_ret
  exact ⟨g, rfl, HG4.out, hgs, HS4.out, HK4.out⟩
set_option maxRecDepth 100000 in
set_option maxHeartbeats 8000000 in
theorem span_two {b n c : Nat} {d dp at_ : Int} {fo : Bool} {A : Option Addr} {l : List Int} {w : World} (h : BSt b n c d fo dp A l at_ w) (p q : Int) (hp : ptAt l at_ = p) (h48 : 48 ≤ p) (h91 : p ≠ 91) (h92 : p ≠ 92) (hm : ptAt l (at_ + 1) = 45) (hq : ptAt l (at_ + 1 + 1) = q) (q48 : 48 ≤ q) (q91 : q ≠ 91) (q92 : q ≠ 92) (q93 : q ≠ 93) (hpq : p ≤ q) :
    Calls Tryz.prog 32 #[.pointer (some ⟨b, 0, none⟩)] w (SpanOut b n c d fo dp A l (at_ + 1 + 1 + 1) p q w) := by
  have C := Lib.hid (one_single h p hp h48 h91 h92)
  have N1 := Lib.hid (show saysB l (at_ + 1) [45] = true by simp [saysB, hm])
  have N2 := Lib.hid (show saysB l (at_ + 1) [45, 93] = false by simp [saysB, hq, q93])
  have N3 := Lib.hid (show saysB l (at_ + 1 + 1) [91, 58] = false by simp [saysB, hq, q91])
  have N4 := Lib.hid (show saysB l (at_ + 1 + 1) [91] = false by simp [saysB, hq, q91])
  have hat := pt_hi h.len (show 0 ≤ ptAt l (at_ + 1 + 1) by omega)
  have HQ := Lib.hid hq
  have hlt := h.lt
  have hlo := h.lo
  have hsm := h.small
  obtain ⟨hat0, hat1⟩ := hat
  clear h hp hq hm
  go_enter Tryz.func32, Tryz.ntmps32
  go_upto_region 2 with (first
    | (go_at_call 39; (with_reducible refine C.out.mono ?_); rintro e w1 ⟨g, rfl, hg, hgs, hS, hk⟩))
  obtain ⟨W2, hW2⟩ : ∃ X, X = w1.alloc (.cells #[.slice (some ⟨g, 0, none⟩) 1 1, .int .i64 p] 61) := ⟨_, rfl⟩
  have hb2 : Below w1.heap.size w1 W2 := by rw [hW2]; exact (Below.refl _ _).alloc (Nat.le_refl _) _
  have HS2 := Lib.hid (hS.next hb2)
  have HK2 := Lib.hid (hk.trans (Kept.of hb2))
  have HC2 := Lib.hid (show W2.heap[w1.heap.size]? = some (.cells #[.slice (some ⟨g, 0, none⟩) 1 1, .int .i64 p] 61 (0, 0)) by rw [hW2]; exact heap_alloc_new w1 _)
  have hs1 : b < w1.heap.size := hS.lt
  rw [← hW2]
  clear hW2 hS hg hk hb2 C
  have p0 : (decide (p < 0)) = false := decide_eq_false (by omega)
  have W1 : IntKind.i64.wrap (at_ + 1 + 1) = at_ + 1 + 1 := IntWalk.i64_in _ (by omega)
  go_upto_region 4 with (first
    | (go_at_call 30; (with_reducible refine (BSt.is_ (cc := 1) (m := 1) (cs := [45]) (HS2.out.next ((Below.refl _ _).alloc (Nat.le_refl _) _)) true N1.out (runes_new W2 [45] #[.int .i32 45] 1 rfl rfl) (by simp) (by decide)).mono ?_); rintro e w3 ⟨rfl, q4, hq4⟩; have hb4 : Below W2.heap.size W2 w3 := (by rw [hq4]; exact below_drewN ((Below.refl _ _).alloc (Nat.le_refl _) _) _); have HS3 := Lib.hid (HS2.out.next hb4); have HC3 := Lib.hid (row_next HC2.out hb4); have HK3 := Lib.hid (HK2.out.trans (Kept.of hb4)); clear hq4 hb4)
    | (go_at_call 30; (with_reducible refine (BSt.is_ (cc := 2) (m := 2) (cs := [45, 93]) (HS3.out.next ((Below.refl _ _).alloc (Nat.le_refl _) _)) false N2.out (runes_new w3 [45, 93] #[.int .i32 45, .int .i32 93] 2 rfl rfl) (by simp) (by decide)).mono ?_); rintro e w4 ⟨rfl, q4, hq4⟩; have hb4 : Below w3.heap.size w3 w4 := (by rw [hq4]; exact below_drewN ((Below.refl _ _).alloc (Nat.le_refl _) _) _); have HS4 := Lib.hid (HS3.out.next hb4); have HC4 := Lib.hid (row_next HC3.out hb4); have HK4 := Lib.hid (HK3.out.trans (Kept.of hb4)); clear hq4 hb4; have c1 := cell_of_row _ _ 1 _ _ _ HC4.out))
  obtain ⟨c0, c1, c2, c3, f2⟩ := HS4.out.rd.cells
  have W2 : IntKind.i64.wrap (at_ + 1) = at_ + 1 := IntWalk.i64_in _ (by omega)
  have e1 : (decide ((n : Int) ≤ at_ + 1 + 1)) = false := decide_eq_false (by omega)
  go_upto_region 8 with (fail)
  obtain ⟨W6, hW6⟩ : ∃ X, X = w4.setCell ⟨b, 2, none⟩ (.int .i64 (at_ + 1 + 1)) := ⟨_, rfl⟩
  have HS6 := Lib.hid (show BSt b n c d fo dp A l (at_ + 1 + 1) W6 by rw [hW6]; exact HS4.out.moved _ (by omega) (by omega))
  have HC6 := Lib.hid (show W6.heap[w1.heap.size]? = some (.cells #[.slice (some ⟨g, 0, none⟩) 1 1, .int .i64 p] 61 (0, 0)) by rw [hW6]; exact hz_set HC4.out (show w1.heap.size ≠ b by omega))
  have HK6 := Lib.hid (show Kept b w W6 by rw [hW6]; exact HK4.out.set 2 _)
  rw [← hW6]
  clear hW6 c0 c1 c2 c3 f2 W1 W2 e1 HS4 HC4 HK4
  obtain ⟨c0, c1, c2, c3, f2⟩ := HS6.out.rd.cells
  by_cases hd : d = 1
  · subst hd
    go_upto_region 10 with (first
      | (go_at_call 30; (with_reducible refine (BSt.is_ (cc := 2) (m := 2) (cs := [91, 58]) (HS6.out.next ((Below.refl _ _).alloc (Nat.le_refl _) _)) false N3.out (runes_new W6 [91, 58] #[.int .i32 91, .int .i32 58] 2 rfl rfl) (by simp) (by decide)).mono ?_); rintro e w7 ⟨rfl, q4, hq4⟩; have hb4 : Below W6.heap.size W6 w7 := (by rw [hq4]; exact below_drewN ((Below.refl _ _).alloc (Nat.le_refl _) _) _); have HS7 := Lib.hid (HS6.out.next hb4); have HC7 := Lib.hid (row_next HC6.out hb4); have HK7 := Lib.hid (HK6.out.trans (Kept.of hb4)); clear hq4 hb4; obtain ⟨c0, c1, c2, c3, f2⟩ := HS7.out.rd.cells)
      | (go_at_call 30; (with_reducible refine (BSt.is_ (cc := 1) (m := 1) (cs := [91]) (HS7.out.next ((Below.refl _ _).alloc (Nat.le_refl _) _)) false N4.out (runes_new w7 [91] #[.int .i32 91] 1 rfl rfl) (by simp) (by decide)).mono ?_); rintro e w8 ⟨rfl, q4, hq4⟩; have hb4 : Below w7.heap.size w7 w8 := (by rw [hq4]; exact below_drewN ((Below.refl _ _).alloc (Nat.le_refl _) _) _); have HS8 := Lib.hid (HS7.out.next hb4); have HC8 := Lib.hid (row_next HC7.out hb4); have HK8 := Lib.hid (HK7.out.trans (Kept.of hb4)); clear hq4 hb4))
    have C2 := Lib.hid (one_single HS8.out q HQ.out q48 q91 q92)
    go_upto_region 11 with (first
      | (go_at_call 39; (with_reducible refine C2.out.mono ?_); rintro e v1 ⟨g2, rfl, hg, hgs2, hS, hk⟩))
    obtain ⟨V, hV⟩ : ∃ X, X = v1.alloc (.cells #[.slice (some ⟨g2, 0, none⟩) 1 1, .int .i64 q] 61) := ⟨_, rfl⟩
    have hbv : Below v1.heap.size v1 V := by rw [hV]; exact (Below.refl _ _).alloc (Nat.le_refl _) _
    have HSV := Lib.hid (hS.next hbv)
    have HKV := Lib.hid (HK8.out.trans (hk.trans (Kept.of hbv)))
    have HC9 := Lib.hid (show V.heap[w1.heap.size]? = some (.cells #[.slice (some ⟨g, 0, none⟩) 1 1, .int .i64 p] 61 (0, 0)) from row_next ((hk.block _ (lt_heap HC8.out) (by omega)).trans HC8.out) hbv)
    have HE9 := Lib.hid (show V.heap[v1.heap.size]? = some (.cells #[.slice (some ⟨g2, 0, none⟩) 1 1, .int .i64 q] 61 (0, 0)) by rw [hV]; exact heap_alloc_new v1 _)
    rw [← hV]
    clear hV hS hg hk hbv C2 c0 c1 c2 c3 f2
    have y1 := cell_of_row _ _ 1 _ _ _ HC9.out
    have z1 := cell_of_row _ _ 1 _ _ _ HE9.out
    have q0 : (decide (q < 0)) = false := decide_eq_false (by omega)
    have pq0 : (decide (q < p)) = false := decide_eq_false (by omega)
    go_wp2_with fail
    go_ret
    exact ⟨_, rfl, heap_alloc_new V _, by have := HKV.out.size; omega, HSV.out.next ((Below.refl _ _).alloc (Nat.le_refl _) _), HKV.out.alloc _⟩
  · have hdb : (d == 1) = false := by simpa using hd
    go_upto_region 10 with (go_at_call 30; (with_reducible refine (BSt.is_ (cc := 2) (m := 2) (cs := [91, 58]) (HS6.out.next ((Below.refl _ _).alloc (Nat.le_refl _) _)) false N3.out (runes_new W6 [91, 58] #[.int .i32 91, .int .i32 58] 2 rfl rfl) (by simp) (by decide)).mono ?_); rintro e w7 ⟨rfl, q4, hq4⟩; have hb4 : Below W6.heap.size W6 w7 := (by rw [hq4]; exact below_drewN ((Below.refl _ _).alloc (Nat.le_refl _) _) _); have HS7 := Lib.hid (HS6.out.next hb4); have HC7 := Lib.hid (row_next HC6.out hb4); have HK7 := Lib.hid (HK6.out.trans (Kept.of hb4)); clear hq4 hb4; obtain ⟨c0, c1, c2, c3, f2⟩ := HS7.out.rd.cells)
    have C2 := Lib.hid (one_single HS7.out q HQ.out q48 q91 q92)
    go_upto_region 11 with (first
      | (go_at_call 39; (with_reducible refine C2.out.mono ?_); rintro e v1 ⟨g2, rfl, hg, hgs2, hS, hk⟩))
    obtain ⟨V, hV⟩ : ∃ X, X = v1.alloc (.cells #[.slice (some ⟨g2, 0, none⟩) 1 1, .int .i64 q] 61) := ⟨_, rfl⟩
    have hbv : Below v1.heap.size v1 V := by rw [hV]; exact (Below.refl _ _).alloc (Nat.le_refl _) _
    have HSV := Lib.hid (hS.next hbv)
    have HKV := Lib.hid (HK7.out.trans (hk.trans (Kept.of hbv)))
    have HC9 := Lib.hid (show V.heap[w1.heap.size]? = some (.cells #[.slice (some ⟨g, 0, none⟩) 1 1, .int .i64 p] 61 (0, 0)) from row_next ((hk.block _ (lt_heap HC7.out) (by omega)).trans HC7.out) hbv)
    have HE9 := Lib.hid (show V.heap[v1.heap.size]? = some (.cells #[.slice (some ⟨g2, 0, none⟩) 1 1, .int .i64 q] 61 (0, 0)) by rw [hV]; exact heap_alloc_new v1 _)
    rw [← hV]
    clear hV hS hg hk hbv C2 c0 c1 c2 c3 f2
    have y1 := cell_of_row _ _ 1 _ _ _ HC9.out
    have z1 := cell_of_row _ _ 1 _ _ _ HE9.out
    have q0 : (decide (q < 0)) = false := decide_eq_false (by omega)
    have pq0 : (decide (q < p)) = false := decide_eq_false (by omega)
    go_wp2_with fail
    go_ret
    exact ⟨_, rfl, heap_alloc_new V _, by have := HKV.out.size; omega, HSV.out.next ((Below.refl _ _).alloc (Nat.le_refl _) _), HKV.out.alloc _⟩
end Go.Proofs.YtoilhjpbkbdifaaGreat
