/- A row of one type beside a row of another; a test over ranges by any closure: walked. -/
import Derived.Test.YtihodjfnhkihiaaSetM
import Derived.Shelf.Abstract
namespace Go.Proofs.Ytihodjfnhkihiaa
open Go.RowKit
set_option linter.unusedVariables false
theorem any_snoc (a : List (Int × Int)) (f : Int × Int → Bool) (k : Nat) (hk : k < a.length) (h : (a.take k).any f = false) (hr : f a[k] = false) : (a.take (k + 1)).any f = false := by
  rw [take_snoc' a k hk, List.any_append, h]; simp [hr]
theorem own_ne_type {w : World} {b1 b2 s1 s2 n1 n2 : Nat} {e1 e2 : TypeId} {v1 v2 : Value} {xs ys : List Value} (h : w.ownsRow b1 e1 s1 v1 n1 xs) (k : w.ownsRow b2 e2 s2 v2 n2 ys) (hne : e1 ≠ e2) : ∀ g, v1.ownBlock = some g → v2.ownBlock ≠ some g := by
  intro g h1 h2
  rcases h.2 with ⟨rfl, _⟩ | ⟨g1, cap, cur, rfl, _, hh, _⟩
  · simp [Value.ownBlock] at h1
  · rcases k.2 with ⟨rfl, _⟩ | ⟨g2, cap2, cur2, rfl, _, kk, _⟩
    · simp [Value.ownBlock] at h2
    · simp [Value.ownBlock] at h1 h2
      subst h1 h2
      rw [hh] at kk
      injection kk with kk
      injection kk with _ kk
      exact hne kk
theorem own_kept {w w' : World} {base' m size' : Nat} {e' : TypeId} {v B : Value} {ys : List Value} (hB : w.ownsRow base' e' size' B m ys) (hg : w.grownBy w' v.ownBlock) (hne : ∀ g, v.ownBlock = some g → B.ownBlock ≠ some g) : w'.ownsRow base' e' size' B m ys := by
  refine hB.kept hg ?_
  cases hb : B.ownBlock with
  | none => exact .inl rfl
  | some g => exact .inr (fun h => hne g h.symm hb)
theorem Rds.ints_from {w : World} {B n b o : Nat} {l : List Int} (h : Rds w B 1 (some ⟨b, o, none⟩) n (ints l)) {j : Nat} (hj : j ≤ n) : Rds w B 1 (some ⟨b, o + j, none⟩) (n - j) (ints (l.drop j)) := by
  refine ⟨by rw [ints_length, List.length_drop, h.ints_len]; omega, fun hn => ?_⟩
  obtain ⟨b', o', e, hb, hc⟩ := h.2 (by omega)
  injection e with e
  injection e with e1 e2
  subst e1 e2
  refine ⟨b, o + j, rfl, hb, fun i u hu => ?_⟩
  rw [Nat.add_assoc]
  refine hc _ u ?_
  rw [← hu]
  simp [ints, List.getElem?_drop]
theorem Rds.ints_first {w : World} {B n : Nat} {A : Option Addr} {l : List Int} (h : Rds w B 1 A n (ints l)) {j : Nat} (hj : j ≤ n) : Rds w B 1 A j (ints (l.take j)) := by
  have := h.first hj
  rw [Nat.mul_one] at this
  simpa [ints, List.map_take] using this
theorem own_ne_new {w : World} {base size n : Nat} {e : TypeId} {v : Value} {xs : List Value} (h : w.ownsRow base e size v n xs) : ∀ g, v.ownBlock = some g → g ≠ w.heap.size := fun g hg e => by have := h.lt g hg; omega
theorem own_setCell_far {w : World} {base : Nat} {e : TypeId} {size n : Nat} {v : Value} {xs : List Value} (h : w.ownsRow base e size v n xs) {a : Addr} (ha : v.ownBlock ≠ some a.block) (u : Value) : (w.setCell a u).ownsRow base e size v n xs := by
  refine ⟨h.1, ?_⟩
  rcases h.2 with h2 | ⟨g, cap, cur, rfl, hg, hh, r⟩
  · exact .inl h2
  · refine .inr ⟨g, cap, cur, rfl, hg, ?_, r⟩
    rw [Below.heap_setCell _ _ _ _ (fun e => ha (by simp [Value.ownBlock, e]))]; exact hh
set_option maxHeartbeats 1000000 in
theorem index67g (f : Int × Int → Bool) (g : Nat) (cb : Array Value) (a : List (Int × Int)) (A : Option Addr) (n c : Nat) (w : World) (hn : n ≤ maxLen) (ha : Rds w w.heap.size 2 A n (rngs a))
    (eg : ∀ args w, (callFunc g args).run Try.prog w = .ok (.enter g args) w)
    (hcl : ∀ (r : Int × Int) (w' : World), Below w.heap.size w w' → Calls Try.prog g (#[.agg #[.int .i64 r.1, .int .i64 r.2]] ++ cb) w' fun e w'' => e = .returned (.bool (f r)) ∧ Below w'.heap.size w' w'') :
    Calls Try.prog 67 #[.slice A n c, .func (.func g) #[] cb] w fun e w' => (∃ i : Int, e = .returned (.int .i64 i) ∧ decide (0 ≤ i) = a.any f) ∧ Below w.heap.size w w' := by
  have HA := Lib.hid ha.rngs_len
  have HCL := Lib.hid hcl
  clear hcl
  unfold maxLen at hn
  go_enter Try.func67, Try.ntmps67
  go_wp2_with fail
  go_loopw [8] (fun i wr => ∃ k : Nat, k ≤ n ∧ i = .int .i64 k ∧ (a.take k).any f = false ∧ Below w.heap.size w wr) (fun i _ => n - (intOf i).toNat)
  case atStart => exact ⟨0, Nat.zero_le _, rfl, by simp, Below.refl _ _⟩
  case round =>
    obtain ⟨k, hk, rfl, hall, hB⟩ := hrel
    have HALL := Lib.hid hall
    clear hall
    by_cases hlt : k < n
    · obtain ⟨b1, off1, hl1, hA, hb1, hc1, hd1⟩ := (ha.below hB (Nat.le_refl _)).rng_at hlt
      subst hA
      have HS := Lib.hid (any_snoc a f k hl1 HALL.out)
      have HBAD := Lib.hid (fun (h : f a[k] = true) => show a.any f = true from List.any_eq_true.2 ⟨a[k], List.getElem_mem hl1, h⟩)
      obtain ⟨p, hp⟩ : ∃ p, p = a[k] := ⟨_, rfl⟩
      rw [← hp] at hc1 hd1 HS HBAD
      clear hp
      cases hok : f p
      · have HOK := Lib.hid hok
        clear hok
        go_wp2_with fail
        refine (HCL.out p wr hB).mono ?_
        rintro e w1 ⟨rfl, hb⟩
        rw [HOK.out]
        go_wp2
        go_roundw
        case rel => exact ⟨k + 1, by omega, by go_num, HS.out HOK.out, hB.trans (hb.mono hB.size)⟩
        case measure => simp [intOf]; omega
      · have HOK := Lib.hid hok
        clear hok
        go_wp2_with fail
        refine (HCL.out p wr hB).mono ?_
        rintro e w1 ⟨rfl, hb⟩
        rw [HOK.out]
        go_wp2
        go_ret
        exact ⟨⟨k, rfl, by rw [HBAD.out HOK.out]; simp⟩, hB.trans (hb.mono hB.size)⟩
    · obtain rfl : k = n := by omega
      go_wp2
      go_ret
      refine ⟨⟨-1, rfl, ?_⟩, hB⟩
      have := HALL.out
      rw [List.take_of_length_le (by rw [HA.out]; exact Nat.le_refl _)] at this
      rw [this]; rfl
set_option maxHeartbeats 1000000 in
theorem contains99g (f : Int × Int → Bool) (g : Nat) (cb : Array Value) (a : List (Int × Int)) (A : Option Addr) (n c : Nat) (w : World) (hn : n ≤ maxLen) (ha : Rds w w.heap.size 2 A n (rngs a))
    (eg : ∀ args w, (callFunc g args).run Try.prog w = .ok (.enter g args) w)
    (hcl : ∀ (r : Int × Int) (w' : World), Below w.heap.size w w' → Calls Try.prog g (#[.agg #[.int .i64 r.1, .int .i64 r.2]] ++ cb) w' fun e w'' => e = .returned (.bool (f r)) ∧ Below w'.heap.size w' w'') :
    Calls Try.prog 45 #[.slice A n c, .func (.func g) #[] cb] w fun e w' => e = .returned (.bool (a.any f)) ∧ Below w.heap.size w w' := by
  have C := Lib.hid (index67g f g cb a A n c w hn ha eg hcl)
  clear hcl eg
  go_enter Try.func45, Try.ntmps45
  go_wp2_with fail
  refine C.out.mono ?_
  rintro e w' ⟨⟨i, rfl, hi⟩, hb⟩
  have HI := Lib.hid hi
  clear hi
  go_wp2
  go_ret
  exact ⟨ret_bool HI.out, hb⟩
end Go.Proofs.Ytihodjfnhkihiaa
