/- A part of a bracket expression: letters, and two with a - between them, up to the ]: walked. -/
import Derived.Test.YtoilhjpbkbdifaaGreatBrD
import Derived.Test.YtoilhjpbkbdifaaGreatSetO
set_option linter.unusedVariables false
set_option linter.unusedSimpArgs false
namespace Go.Proofs.YtoilhjpbkbdifaaGreat
open Go.RowKit
/-- a letter, or a digit -/
def Aln (p : Int) : Prop := 48 ≤ p ∧ p ≤ 57 ∨ 65 ≤ p ∧ p ≤ 90 ∨ 97 ≤ p ∧ p ≤ 122
/-- what stands from a place up to the ] -/
inductive Spans (l : List Int) : Int → List (Int × Int) → Int → Prop
  | done {at_ : Int} : ptAt l at_ = 93 → Spans l at_ [] at_
  | one {at_ e : Int} {r : List (Int × Int)} (p : Int) : ptAt l at_ = p → Aln p → ptAt l (at_ + 1) ≠ 45 → Spans l (at_ + 1) r e → Spans l at_ ((p, p) :: r) e
  | two {at_ e : Int} {r : List (Int × Int)} (p q : Int) : ptAt l at_ = p → Aln p → ptAt l (at_ + 1) = 45 → ptAt l (at_ + 1 + 1) = q → Aln q → p ≤ q → Spans l (at_ + 1 + 1 + 1) r e → Spans l at_ ((p, q) :: r) e
theorem Spans.end_ {l : List Int} {at_ e : Int} {r : List (Int × Int)} (h : Spans l at_ r e) : ptAt l e = 93 := by
  induction h with
  | done h => exact h
  | one _ _ _ _ _ ih => exact ih
  | two _ _ _ _ _ _ _ _ _ ih => exact ih
theorem Spans.ok {l : List Int} {at_ e : Int} {r : List (Int × Int)} (h : Spans l at_ r e) : ∀ x ∈ r, okR x = true := by
  induction h with
  | done h => intro x hx; cases hx
  | one p _ hp _ _ ih =>
    intro x hx
    rcases List.mem_cons.1 hx with rfl | hx
    · unfold Aln at hp; rw [okR_iff]; simp only; omega
    · exact ih x hx
  | two p q _ hp _ _ hq hpq _ ih =>
    intro x hx
    rcases List.mem_cons.1 hx with rfl | hx
    · unfold Aln at hp hq; rw [okR_iff]; simp only; omega
    · exact ih x hx
theorem own_keptb {w w' : World} {base b : Nat} {e : TypeId} {size n : Nat} {v : Value} {xs : List Value} (h : w.ownsRow base e size v n xs) (hk : Kept b w w') (hb : b < base) : w'.ownsRow base e size v n xs := by
  refine ⟨h.1, ?_⟩
  rcases h.2 with h2 | ⟨g, cap, cur, hv, hg, hh, r⟩
  · exact .inl h2
  · refine .inr ⟨g, cap, cur, hv, hg, ?_, r⟩
    have hlt : g < w.heap.size := by
      rcases Nat.lt_or_ge g w.heap.size with h | h
      · exact h
      · rw [Array.getElem?_eq_none h] at hh; cases hh
    rw [hk.block g hlt (by omega)]
    exact hh
theorem BSt.below {b n c C : Nat} {d dp at_ : Int} {fo : Bool} {A : Option Addr} {l : List Int} {w w' : World} (h : BSt b n c d fo dp A l at_ w) (hb : Below C w w') (hC : b < C) : BSt b n c d fo dp A l at_ w' :=
  ⟨by have := h.rd; unfold RdAt at *; rw [hb.block b hC]; exact this, h.row.below hb (Nat.le_of_lt hC), h.lo, h.hi, h.small, h.cap⟩
theorem Kept.low {b : Nat} {w w1 w2 : World} (h : Kept b w w1) (hb : Below w.heap.size w1 w2) : Kept b w w2 :=
  ⟨hb.os.trans h.os, hb.tape.trans h.tape, hb.output.trans h.output, Nat.le_trans h.size hb.size, fun k hk hn => (hb.block k hk).trans (h.block k hk hn)⟩
theorem Spans.step {l : List Int} {a ee : Int} {rest : List (Int × Int)} (h : Spans l a rest ee) :
    (rest = [] ∧ a = ee ∧ ptAt l a = 93) ∨ ∃ lo hi nx r, rest = (lo, hi) :: r ∧ Spans l nx r ee ∧ 48 ≤ ptAt l a ∧ ptAt l a ≠ 93 ∧ ∀ (b n c : Nat) (d dp : Int) (fo : Bool) (A : Option Addr) (W : World), BSt b n c d fo dp A l a W → Calls Tryz.prog 32 #[.pointer (some ⟨b, 0, none⟩)] W (SpanOut b n c d fo dp A l nx lo hi W) := by
  cases h with
  | done h => exact .inl ⟨rfl, rfl, h⟩
  | one p hp hA hq hr =>
    unfold Aln at hA
    exact .inr ⟨p, p, _, _, rfl, hr, by omega, by omega, fun b n c d dp fo A W hS => span_one hS p hp (by omega) (by omega) (by omega) hq⟩
  | two p q hp hA hm hq hB hpq hr =>
    unfold Aln at hA hB
    exact .inr ⟨p, q, _, _, rfl, hr, by omega, by omega, fun b n c d dp fo A W hS => span_two hS p q hp (by omega) (by omega) (by omega) hm hq (by omega) (by omega) (by omega) (by omega) hpq⟩
/-- what a part leaves: a set of its own, and the reader at its ] -/
def PartOut (b n c : Nat) (d : Int) (fo : Bool) (dp : Int) (A : Option Addr) (l : List Int) (nx : Int) (f : Int → Prop) (k : Nat) (w : World) (e : Ending) (w' : World) : Prop :=
  ∃ out A' n' c', IsSet out f ∧ out.length ≤ k ∧ e = .returned (.slice A' n' c') ∧ w'.ownsRow w.heap.size 27 2 (.slice A' n' c') n' (rngs out) ∧ BSt b n c d fo dp A l nx w' ∧ Kept b w w'
set_option maxRecDepth 100000 in
set_option maxHeartbeats 8000000 in
theorem part_true (HSORT : Hid SortC) {b n c : Nat} {d dp at_ ee : Int} {fo : Bool} {A : Option Addr} {l : List Int} {w : World} {D : List (Int × Int)} (h : BSt b n c d fo dp A l at_ w) (hs : Spans l at_ D ee) (hD : D ≠ []) (hDn : D.length ≤ 300) :
    Calls Tryz.prog 26 #[.pointer (some ⟨b, 0, none⟩), .bool true] w (PartOut b n c d fo dp A l ee (mem D) D.length w) := by
  have HOK := Lib.hid hs.ok
  have hlt := h.lt
  have HS0 := Lib.hid h
  have HSP := Lib.hid hs
  clear h hs
  go_enter Tryz.func26, Tryz.ntmps26
  go_upto_region 4 with (fail)
  go_loopw [5, 6] (fun v i wr => ∃ (done rest : List (Int × Int)) (a2 : Int), i = .int .i64 (done.length : Nat) ∧ Hid (done ++ rest = D) ∧ Hid (Spans l a2 rest ee) ∧ Hid (wr.ownsRow w.heap.size 27 2 v done.length (rngs done)) ∧ Hid (BSt b n c d fo dp A l a2 wr) ∧ Hid (Kept b w wr)) (fun _ i _ => D.length - (intOf i).toNat)
  case atStart => exact ⟨[], D, at_, rfl, Lib.hid rfl, HSP, Lib.hid (World.ownsRow_nil _ _ _ _), HS0, Lib.hid (Kept.refl _ _)⟩
  case round =>
    obtain ⟨done, rest, a2, rfl, HD, HSP2, HO1, HS1, HK1⟩ := hrel
    have hDl : done.length + rest.length = D.length := by rw [← HD.out]; simp
    have hlt1 := HK1.out.size
    rcases HSP2.out.step with ⟨rfl, rfl, h93⟩ | ⟨lo, hi, nx, r, rfl, hr, h48, h93, hCS⟩
    · have hdD : done = D := by have := HD.out; simpa using this
      have hk0 : 0 < done.length := by
        rcases done with _ | ⟨x, xs⟩
        · exact absurd hdD.symm hD
        · simp
      have N93 := Lib.hid (show saysB l a2 [93] = true by simp [saysB, h93])
      have k1 : (0 : Int) < (done.length : Int) := by omega
      have k2 : ((done.length : Int) == 0) = false := beq_eq_false_iff_ne.2 (by omega)
      have HDD := Lib.hid hdD
      clear hdD
      obtain ⟨Ao, co, hv, hoc, hco⟩ := own_slice HO1.out
      subst hv
      go_upto_region 8 with (go_at_call 30; (with_reducible refine (BSt.is_ (cc := 1) (m := 1) (cs := [93]) (HS1.out.next ((Below.refl _ _).alloc (Nat.le_refl _) _)) true N93.out (runes_new wr [93] #[.int .i32 93] 1 rfl rfl) (by simp) (by decide)).mono ?_); rintro e w2 ⟨rfl, q4, hq4⟩; have hb4 : Below wr.heap.size wr w2 := (by rw [hq4]; exact below_drewN ((Below.refl _ _).alloc (Nat.le_refl _) _) _); have HS2 := Lib.hid (HS1.out.next hb4); have HO2 := Lib.hid (own_below HO1.out hb4 (Nat.le_refl _)); have HK2 := Lib.hid (HK1.out.trans (Kept.of hb4)); clear hq4 hb4)
      have HL2 := Lib.hid (show done.length ≤ 100000 by omega)
      go_wp2_with (go_at_call 31; (with_reducible refine (raw72 HSORT done Ao done.length co w2 HL2.out (by rw [HDD.out]; exact HOK.out) (Rds.of_own HO2.out)).mono ?_); rintro e w5 ⟨out, hset, hln, A5, n5, c5, rfl, hown5, hb5⟩; have HS5 := Lib.hid (HS2.out.next hb5); have HK5 := Lib.hid (HK2.out.trans (Kept.of hb5)); have HO5 := Lib.hid (own_mono hown5 HK2.out.size); have HSET := Lib.hid hset; clear hset hown5 hb5)
      go_ret
      exact ⟨out, A5, n5, c5, by rw [← HDD.out]; exact HSET.out, by rw [← HDD.out]; exact hln, rfl, HO5.out, HS5.out, HK5.out⟩
    · have CS := Lib.hid hCS
      have hDl2 : done.length + r.length + 1 = D.length := by simp at hDl; omega
      clear hDl
      have N93 := Lib.hid (show saysB l a2 [93] = false by simp [saysB, h93])
      have N38 := Lib.hid (show saysB l a2 [38, 38] = false by simp [saysB, show ptAt l a2 ≠ 38 by omega])
      clear hCS h93 h48
      by_cases hk0 : done.length = 0
      · have k1 : (decide ((0 : Int) < (done.length : Int))) = false := decide_eq_false (by omega)
        go_upto_region 9 with (fail)
        obtain ⟨c0, c1, c2, c3, f2⟩ := HS1.out.rd.cells
        by_cases hd : d = 1
        · subst hd
          go_upto_region 13 with (go_at_call 30; (with_reducible refine (BSt.is_ (cc := 2) (m := 2) (cs := [38, 38]) (HS1.out.next ((Below.refl _ _).alloc (Nat.le_refl _) _)) false N38.out (runes_new wr [38, 38] #[.int .i32 38, .int .i32 38] 2 rfl rfl) (by simp) (by decide)).mono ?_); rintro e w2 ⟨rfl, q4, hq4⟩; have hb4 : Below wr.heap.size wr w2 := (by rw [hq4]; exact below_drewN ((Below.refl _ _).alloc (Nat.le_refl _) _) _); have HS2 := Lib.hid (HS1.out.next hb4); have HO2 := Lib.hid (own_below HO1.out hb4 (Nat.le_refl _)); have HK2 := Lib.hid (HK1.out.trans (Kept.of hb4)); clear hq4 hb4)
          go_wp2_with (first
            | (go_at_call 32; (with_reducible refine (CS.out b n c 1 dp fo A _ HS2.out).mono ?_); rintro e w9 ⟨g, rfl, hg, hgs, hS9, hk9⟩; have HO9 := Lib.hid (own_keptb HO2.out hk9 hlt); have HK9 := Lib.hid (HK2.out.trans hk9); have HS9 := Lib.hid hS9; have R9 := Lib.hid (rds_at (B := w9.heap.size) (size := 2) (n := 1) (xs := rngs [(lo, hi)]) hg rfl rfl (lt_heap hg)); have hsz9 := hk9.size; clear hg hS9 hk9)
            | (at_builtin; refine app_rngs (.tmp 46) (.tmp 48) (base := w.heap.size) (xs := done) (ys := [(lo, hi)]) (n := done.length) (m := 1) HO9.out R9.out (by omega) (by have := HK9.out.size; omega) rfl rfl rfl rfl ?_; intro v3 w3 hown3 hg3 hat3))
          have hb3 : Below w.heap.size w9 w3 := (Below.refl _ _).grown hg3 HK9.out.size (fun g hg => (HO9.out.lt g hg).1)
          go_roundw
          case rel => exact ⟨done ++ [(lo, hi)], r, nx, by first | (simp; done) | (simp; omega), Lib.hid (by simpa using HD.out), Lib.hid hr, Lib.hid (by simpa using hown3), Lib.hid (HS9.out.below hb3 hlt), Lib.hid (HK9.out.low hb3)⟩
          case measure => simp [intOf]; omega
        · have hdb : (d == 1) = false := by simpa using hd
          go_upto_region 13 with (fail)
          go_wp2_with (first
            | (go_at_call 32; (with_reducible refine (CS.out b n c d dp fo A _ HS1.out).mono ?_); rintro e w9 ⟨g, rfl, hg, hgs, hS9, hk9⟩; have HO9 := Lib.hid (own_keptb HO1.out hk9 hlt); have HK9 := Lib.hid (HK1.out.trans hk9); have HS9 := Lib.hid hS9; have R9 := Lib.hid (rds_at (B := w9.heap.size) (size := 2) (n := 1) (xs := rngs [(lo, hi)]) hg rfl rfl (lt_heap hg)); have hsz9 := hk9.size; clear hg hS9 hk9)
            | (at_builtin; refine app_rngs (.tmp 46) (.tmp 48) (base := w.heap.size) (xs := done) (ys := [(lo, hi)]) (n := done.length) (m := 1) HO9.out R9.out (by omega) (by have := HK9.out.size; omega) rfl rfl rfl rfl ?_; intro v3 w3 hown3 hg3 hat3))
          have hb3 : Below w.heap.size w9 w3 := (Below.refl _ _).grown hg3 HK9.out.size (fun g hg => (HO9.out.lt g hg).1)
          go_roundw
          case rel => exact ⟨done ++ [(lo, hi)], r, nx, by first | (simp; done) | (simp; omega), Lib.hid (by simpa using HD.out), Lib.hid hr, Lib.hid (by simpa using hown3), Lib.hid (HS9.out.below hb3 hlt), Lib.hid (HK9.out.low hb3)⟩
          case measure => simp [intOf]; omega
      · have k1 : (decide ((0 : Int) < (done.length : Int))) = true := decide_eq_true (by omega)
        go_upto_region 9 with (go_at_call 30; (with_reducible refine (BSt.is_ (cc := 1) (m := 1) (cs := [93]) (HS1.out.next ((Below.refl _ _).alloc (Nat.le_refl _) _)) false N93.out (runes_new wr [93] #[.int .i32 93] 1 rfl rfl) (by simp) (by decide)).mono ?_); rintro e w2 ⟨rfl, q4, hq4⟩; have hb4 : Below wr.heap.size wr w2 := (by rw [hq4]; exact below_drewN ((Below.refl _ _).alloc (Nat.le_refl _) _) _); have HS2 := Lib.hid (HS1.out.next hb4); have HO2 := Lib.hid (own_below HO1.out hb4 (Nat.le_refl _)); have HK2 := Lib.hid (HK1.out.trans (Kept.of hb4)); clear hq4 hb4)
        obtain ⟨c0, c1, c2, c3, f2⟩ := HS2.out.rd.cells
        by_cases hd : d = 1
        · subst hd
          go_upto_region 13 with (go_at_call 30; (with_reducible refine (BSt.is_ (cc := 2) (m := 2) (cs := [38, 38]) (HS2.out.next ((Below.refl _ _).alloc (Nat.le_refl _) _)) false N38.out (runes_new w2 [38, 38] #[.int .i32 38, .int .i32 38] 2 rfl rfl) (by simp) (by decide)).mono ?_); rintro e w3 ⟨rfl, q4, hq4⟩; have hb4 : Below w2.heap.size w2 w3 := (by rw [hq4]; exact below_drewN ((Below.refl _ _).alloc (Nat.le_refl _) _) _); have HS3 := Lib.hid (HS2.out.next hb4); have HO3 := Lib.hid (own_below HO2.out hb4 (Nat.le_refl _)); have HK3 := Lib.hid (HK2.out.trans (Kept.of hb4)); clear hq4 hb4)
          go_wp2_with (first
            | (go_at_call 32; (with_reducible refine (CS.out b n c 1 dp fo A _ HS3.out).mono ?_); rintro e w9 ⟨g, rfl, hg, hgs, hS9, hk9⟩; have HO9 := Lib.hid (own_keptb HO3.out hk9 hlt); have HK9 := Lib.hid (HK3.out.trans hk9); have HS9 := Lib.hid hS9; have R9 := Lib.hid (rds_at (B := w9.heap.size) (size := 2) (n := 1) (xs := rngs [(lo, hi)]) hg rfl rfl (lt_heap hg)); have hsz9 := hk9.size; clear hg hS9 hk9)
            | (at_builtin; refine app_rngs (.tmp 46) (.tmp 48) (base := w.heap.size) (xs := done) (ys := [(lo, hi)]) (n := done.length) (m := 1) HO9.out R9.out (by omega) (by have := HK9.out.size; omega) rfl rfl rfl rfl ?_; intro v3 w3 hown3 hg3 hat3))
          have hb3 : Below w.heap.size w9 w3 := (Below.refl _ _).grown hg3 HK9.out.size (fun g hg => (HO9.out.lt g hg).1)
          go_roundw
          case rel => exact ⟨done ++ [(lo, hi)], r, nx, by first | (simp; done) | (simp; omega), Lib.hid (by simpa using HD.out), Lib.hid hr, Lib.hid (by simpa using hown3), Lib.hid (HS9.out.below hb3 hlt), Lib.hid (HK9.out.low hb3)⟩
          case measure => simp [intOf]; omega
        · have hdb : (d == 1) = false := by simpa using hd
          go_upto_region 13 with (fail)
          go_wp2_with (first
            | (go_at_call 32; (with_reducible refine (CS.out b n c d dp fo A _ HS2.out).mono ?_); rintro e w9 ⟨g, rfl, hg, hgs, hS9, hk9⟩; have HO9 := Lib.hid (own_keptb HO2.out hk9 hlt); have HK9 := Lib.hid (HK2.out.trans hk9); have HS9 := Lib.hid hS9; have R9 := Lib.hid (rds_at (B := w9.heap.size) (size := 2) (n := 1) (xs := rngs [(lo, hi)]) hg rfl rfl (lt_heap hg)); have hsz9 := hk9.size; clear hg hS9 hk9)
            | (at_builtin; refine app_rngs (.tmp 46) (.tmp 48) (base := w.heap.size) (xs := done) (ys := [(lo, hi)]) (n := done.length) (m := 1) HO9.out R9.out (by omega) (by have := HK9.out.size; omega) rfl rfl rfl rfl ?_; intro v3 w3 hown3 hg3 hat3))
          have hb3 : Below w.heap.size w9 w3 := (Below.refl _ _).grown hg3 HK9.out.size (fun g hg => (HO9.out.lt g hg).1)
          go_roundw
          case rel => exact ⟨done ++ [(lo, hi)], r, nx, by first | (simp; done) | (simp; omega), Lib.hid (by simpa using HD.out), Lib.hid hr, Lib.hid (by simpa using hown3), Lib.hid (HS9.out.below hb3 hlt), Lib.hid (HK9.out.low hb3)⟩
          case measure => simp [intOf]; omega
end Go.Proofs.YtoilhjpbkbdifaaGreat
