/-
  MakeOf, NotOf, MeetOf and UnionOf of the reference, walked: each a right set of just its points.
-/
import Derived.Test.YtehlijnhhbdbhaaSetF
import Derived.Test.YtehlijnhhbdbhaaSetG
import Derived.Shelf.Abstract
namespace Go.Proofs.Ytehlijnhhbdbhaa
open Go.RowKit
set_option linter.unusedVariables false
def RefSet (w : World) (f : Int → Prop) (k : Nat) (e : Ending) (w' : World) : Prop := ∃ out, IsSet out f ∧ out.length ≤ k ∧ OwnRngs w out e w'
theorem memB_range {a : List (Int × Int)} (h : ∀ r ∈ a, okR r = true) {p : Int} (hp : memB a p = true) : 0 ≤ p ∧ p ≤ 1114111 := by
  obtain ⟨r, hr, h1, h2⟩ := (memB_iff a p).1 hp
  have := (okR_iff r).1 (h r hr)
  omega
set_option maxHeartbeats 1000000 in
theorem makeOf_any (a : List (Int × Int)) (A : Option Addr) (n c : Nat) (w : World) (hn : n ≤ 40000) (hc : c ≤ maxLen) (hok : ∀ r ∈ a, okR r = true) (ha : Rds w w.heap.size 2 A n (rngs a)) :
    Calls Try.prog 28 #[.slice A n c] w (RefSet w (fun p => mem a p) (n * 2 + 1)) := by
  have HOK := Lib.hid hok
  have HA := Lib.hid ha.rngs_len
  have eg : ∀ args w, (callFunc 75 args).run Try.prog w = .ok (.enter 75 args) w := enters_of Try.func75 (by kernel_rfl) rfl
  have EG := Lib.hid eg
  clear eg hok
  go_enter Try.func28, Try.ntmps28
  go_wp2_with fail
  refine (endsOf_any a [] A none n 0 c 0 _ (by omega) HOK.out (by simp) ((ha.alloc (Nat.le_refl _) _).more (by simp)) (Rds.nil_ _ _ _ _)).mono ?_
  rintro e w1 ⟨A1, n1, c1, rfl, hown, hb⟩
  have hl1 := Lib.hid (own_ints_len hown)
  have hbx : w1.cell? ⟨w.heap.size, 0, none⟩ = some (.slice A n c) := by rw [hb.cell (p := ⟨w.heap.size, 0, none⟩) (by simp)]; simp
  have hs1 := hb.size
  simp at hs1
  have B0 : Below w.heap.size w w1 := Below.trans (by go_grown) (hb.mono (by simp))
  go_wp2_with fail
  have ha1 := (ha.below B0 (Nat.le_refl _))
  refine (setOf_any (endsL a ++ endsL []) (memB a) A1 n1 c1 75 #[.pointer (some ⟨w.heap.size, 0, none⟩)] w1 (by rw [hl1.out, List.length_append, endsL_len, endsL_len, HA.out]; simp; omega) (Rds.of_own hown) EG.out
    (fun p w' hbw => clo75 a p _ A n c w' w.heap.size (by unfold maxLen; omega) (ha1.below hbw (by omega)) (by rw [hbw.cell (p := ⟨w.heap.size, 0, none⟩) (by simp; omega)]; exact hbx)) (fun p _ _ hp => memB_change a p (by simpa [endsL] using hp))).mono ?_
  rintro e w2 ⟨out, hset, hlen, A2, n2, c2, rfl, hown2, hb2⟩
  go_wp2
  go_ret
  refine ⟨out, ⟨hset.1, fun p => ?_⟩, ?_, ownRngs_of rfl (own_mono hown2 (by omega)) (B0.trans (hb2.mono (by omega)))⟩
  · refine (hset.2 p).trans ?_
    show (0 ≤ p ∧ p ≤ 1114111 ∧ memB a p = true) ↔ mem a p
    rw [memB_iff]
    exact ⟨fun h => h.2.2, fun h => ⟨(memB_range HOK.out ((memB_iff a p).2 h)).1, (memB_range HOK.out ((memB_iff a p).2 h)).2, h⟩⟩
  · rw [hl1.out, List.length_append, endsL_len, endsL_len, HA.out] at hlen
    simpa using hlen
set_option maxHeartbeats 1000000 in
theorem notOf_any (a : List (Int × Int)) (A : Option Addr) (n c : Nat) (w : World) (hn : n ≤ 40000) (hc : c ≤ maxLen) (hok : ∀ r ∈ a, okR r = true) (ha : Rds w w.heap.size 2 A n (rngs a)) :
    Calls Try.prog 33 #[.slice A n c] w (RefSet w (fun p => 0 ≤ p ∧ p ≤ 1114111 ∧ ¬ mem a p) (n * 2 + 1)) := by
  have HOK := Lib.hid hok
  have HA := Lib.hid ha.rngs_len
  have eg : ∀ args w, (callFunc 79 args).run Try.prog w = .ok (.enter 79 args) w := enters_of Try.func79 (by kernel_rfl) rfl
  have EG := Lib.hid eg
  clear eg hok
  go_enter Try.func33, Try.ntmps33
  go_wp2_with fail
  refine (endsOf_any a [] A none n 0 c 0 _ (by omega) HOK.out (by simp) ((ha.alloc (Nat.le_refl _) _).more (by simp)) (Rds.nil_ _ _ _ _)).mono ?_
  rintro e w1 ⟨A1, n1, c1, rfl, hown, hb⟩
  have hl1 := Lib.hid (own_ints_len hown)
  have hbx : w1.cell? ⟨w.heap.size, 0, none⟩ = some (.slice A n c) := by rw [hb.cell (p := ⟨w.heap.size, 0, none⟩) (by simp)]; simp
  have hs1 := hb.size
  simp at hs1
  have B0 : Below w.heap.size w w1 := Below.trans (by go_grown) (hb.mono (by simp))
  go_wp2_with fail
  have ha1 := (ha.below B0 (Nat.le_refl _))
  refine (setOf_any (endsL a ++ endsL []) (fun p => !memB a p) A1 n1 c1 79 #[.pointer (some ⟨w.heap.size, 0, none⟩)] w1 (by rw [hl1.out, List.length_append, endsL_len, endsL_len, HA.out]; simp; omega) (Rds.of_own hown) EG.out
    (fun p w' hbw => clo79 a p _ A n c w' w.heap.size (by unfold maxLen; omega) (ha1.below hbw (by omega)) (by rw [hbw.cell (p := ⟨w.heap.size, 0, none⟩) (by simp; omega)]; exact hbx)) (fun p _ _ hp => by show (!memB a p) = !memB a (p - 1); rw [memB_change a p (by simpa [endsL] using hp)])).mono ?_
  rintro e w2 ⟨out, hset, hlen, A2, n2, c2, rfl, hown2, hb2⟩
  go_wp2
  go_ret
  refine ⟨out, ⟨hset.1, fun p => ?_⟩, ?_, ownRngs_of rfl (own_mono hown2 (by omega)) (B0.trans (hb2.mono (by omega)))⟩
  · refine (hset.2 p).trans ?_
    show (0 ≤ p ∧ p ≤ 1114111 ∧ (!memB a p) = true) ↔ (0 ≤ p ∧ p ≤ 1114111 ∧ ¬ mem a p)
    rw [← memB_iff]
    simp
  · rw [hl1.out, List.length_append, endsL_len, endsL_len, HA.out] at hlen
    simpa using hlen
set_option maxHeartbeats 1000000 in
theorem meetOf_any (a b : List (Int × Int)) (A A2 : Option Addr) (n c n2 c2 : Nat) (w : World) (hn : n + n2 ≤ 40000) (hc : c ≤ maxLen) (hok : ∀ r ∈ a, okR r = true) (hok2 : ∀ r ∈ b, okR r = true) (ha : Rds w w.heap.size 2 A n (rngs a)) (hb2 : Rds w w.heap.size 2 A2 n2 (rngs b)) :
    Calls Try.prog 37 #[.slice A n c, .slice A2 n2 c2] w (RefSet w (fun p => mem a p ∧ mem b p) ((n + n2) * 2 + 1)) := by
  have HOK := Lib.hid hok
  have HOK2 := Lib.hid hok2
  have HA := Lib.hid ha.rngs_len
  have HA2 := Lib.hid hb2.rngs_len
  have eg : ∀ args w, (callFunc 83 args).run Try.prog w = .ok (.enter 83 args) w := enters_of Try.func83 (by kernel_rfl) rfl
  have EG := Lib.hid eg
  clear eg hok hok2
  go_enter Try.func37, Try.ntmps37
  go_wp2_with fail
  refine (endsOf_any a b A A2 n n2 c c2 _ (by omega) HOK.out HOK2.out (((ha.alloc (Nat.le_refl _) _).alloc (by simp) _).more (by simp; omega)) (((hb2.alloc (Nat.le_refl _) _).alloc (by simp) _).more (by simp; omega))).mono ?_
  rintro e w1 ⟨A1, n1, c1, rfl, hown, hb⟩
  have hl1 := Lib.hid (own_ints_len hown)
  have hbx : w1.cell? ⟨w.heap.size, 0, none⟩ = some (.slice A n c) := by rw [hb.cell (p := ⟨w.heap.size, 0, none⟩) (by simp; omega)]; simp
  have hby : w1.cell? ⟨w.heap.size + 1, 0, none⟩ = some (.slice A2 n2 c2) := by rw [hb.cell (p := ⟨w.heap.size + 1, 0, none⟩) (by simp)]; simp
  have hs1 := hb.size
  simp at hs1
  have B0 : Below w.heap.size w w1 := Below.trans (by go_grown) (hb.mono (by simp; omega))
  go_wp2_with fail
  have ha1 := (ha.below B0 (Nat.le_refl _))
  have hb1 := (hb2.below B0 (Nat.le_refl _))
  refine (setOf_any (endsL a ++ endsL b) (fun p => memB a p && memB b p) A1 n1 c1 83 #[.pointer (some ⟨w.heap.size, 0, none⟩), .pointer (some ⟨w.heap.size + 1, 0, none⟩)] w1 (by rw [hl1.out, List.length_append, endsL_len, endsL_len, HA.out, HA2.out]; omega) (Rds.of_own hown) EG.out
    (fun p w' hbw => clo83 a b p _ _ A A2 n c n2 c2 w' w.heap.size w.heap.size (by unfold maxLen; omega) (by unfold maxLen; omega) (ha1.below hbw (by omega)) (hb1.below hbw (by omega)) (by rw [hbw.cell (p := ⟨w.heap.size, 0, none⟩) (by simp; omega)]; exact hbx) (by rw [hbw.cell (p := ⟨w.heap.size + 1, 0, none⟩) (by simp; omega)]; exact hby))
    (fun p _ _ hp => by show (memB a p && memB b p) = (memB a (p - 1) && memB b (p - 1)); rw [memB_change a p (fun h => hp (List.mem_append_left _ h)), memB_change b p (fun h => hp (List.mem_append_right _ h))])).mono ?_
  rintro e w2 ⟨out, hset, hlen, A3, n3, c3, rfl, hown2, hb3⟩
  go_wp2
  go_ret
  refine ⟨out, ⟨hset.1, fun p => ?_⟩, ?_, ownRngs_of rfl (own_mono hown2 (by omega)) (B0.trans (hb3.mono (by omega)))⟩
  · refine (hset.2 p).trans ?_
    show (0 ≤ p ∧ p ≤ 1114111 ∧ (memB a p && memB b p) = true) ↔ (mem a p ∧ mem b p)
    rw [← memB_iff, ← memB_iff]
    have h1 := memB_range (p := p) HOK.out
    have h2 := memB_range (p := p) HOK2.out
    cases e1 : memB a p <;> cases e2 : memB b p <;> simp [e1, e2] at h1 h2 ⊢ <;> omega
  · rw [hl1.out, List.length_append, endsL_len, endsL_len, HA.out, HA2.out] at hlen
    omega
set_option maxHeartbeats 1000000 in
theorem unionOf_any (a b : List (Int × Int)) (A A2 : Option Addr) (n c n2 c2 : Nat) (w : World) (hn : n + n2 ≤ 40000) (hc : c ≤ maxLen) (hok : ∀ r ∈ a, okR r = true) (hok2 : ∀ r ∈ b, okR r = true) (ha : Rds w w.heap.size 2 A n (rngs a)) (hb2 : Rds w w.heap.size 2 A2 n2 (rngs b)) :
    Calls Try.prog 40 #[.slice A n c, .slice A2 n2 c2] w (RefSet w (fun p => mem a p ∨ mem b p) ((n + n2) * 2 + 1)) := by
  have HOK := Lib.hid hok
  have HOK2 := Lib.hid hok2
  have HA := Lib.hid ha.rngs_len
  have HA2 := Lib.hid hb2.rngs_len
  have eg : ∀ args w, (callFunc 87 args).run Try.prog w = .ok (.enter 87 args) w := enters_of Try.func87 (by kernel_rfl) rfl
  have EG := Lib.hid eg
  clear eg hok hok2
  go_enter Try.func40, Try.ntmps40
  go_wp2_with fail
  refine (endsOf_any a b A A2 n n2 c c2 _ (by omega) HOK.out HOK2.out (((ha.alloc (Nat.le_refl _) _).alloc (by simp) _).more (by simp; omega)) (((hb2.alloc (Nat.le_refl _) _).alloc (by simp) _).more (by simp; omega))).mono ?_
  rintro e w1 ⟨A1, n1, c1, rfl, hown, hb⟩
  have hl1 := Lib.hid (own_ints_len hown)
  have hbx : w1.cell? ⟨w.heap.size, 0, none⟩ = some (.slice A n c) := by rw [hb.cell (p := ⟨w.heap.size, 0, none⟩) (by simp; omega)]; simp
  have hby : w1.cell? ⟨w.heap.size + 1, 0, none⟩ = some (.slice A2 n2 c2) := by rw [hb.cell (p := ⟨w.heap.size + 1, 0, none⟩) (by simp)]; simp
  have hs1 := hb.size
  simp at hs1
  have B0 : Below w.heap.size w w1 := Below.trans (by go_grown) (hb.mono (by simp; omega))
  go_wp2_with fail
  have ha1 := (ha.below B0 (Nat.le_refl _))
  have hb1 := (hb2.below B0 (Nat.le_refl _))
  refine (setOf_any (endsL a ++ endsL b) (fun p => memB a p || memB b p) A1 n1 c1 87 #[.pointer (some ⟨w.heap.size, 0, none⟩), .pointer (some ⟨w.heap.size + 1, 0, none⟩)] w1 (by rw [hl1.out, List.length_append, endsL_len, endsL_len, HA.out, HA2.out]; omega) (Rds.of_own hown) EG.out
    (fun p w' hbw => clo87 a b p _ _ A A2 n c n2 c2 w' w.heap.size w.heap.size (by unfold maxLen; omega) (by unfold maxLen; omega) (ha1.below hbw (by omega)) (hb1.below hbw (by omega)) (by rw [hbw.cell (p := ⟨w.heap.size, 0, none⟩) (by simp; omega)]; exact hbx) (by rw [hbw.cell (p := ⟨w.heap.size + 1, 0, none⟩) (by simp; omega)]; exact hby))
    (fun p _ _ hp => by show (memB a p || memB b p) = (memB a (p - 1) || memB b (p - 1)); rw [memB_change a p (fun h => hp (List.mem_append_left _ h)), memB_change b p (fun h => hp (List.mem_append_right _ h))])).mono ?_
  rintro e w2 ⟨out, hset, hlen, A3, n3, c3, rfl, hown2, hb3⟩
  go_wp2
  go_ret
  refine ⟨out, ⟨hset.1, fun p => ?_⟩, ?_, ownRngs_of rfl (own_mono hown2 (by omega)) (B0.trans (hb3.mono (by omega)))⟩
  · refine (hset.2 p).trans ?_
    show (0 ≤ p ∧ p ≤ 1114111 ∧ (memB a p || memB b p) = true) ↔ (mem a p ∨ mem b p)
    rw [← memB_iff, ← memB_iff]
    have h1 := memB_range (p := p) HOK.out
    have h2 := memB_range (p := p) HOK2.out
    cases e1 : memB a p <;> cases e2 : memB b p <;> simp [e1, e2] at h1 h2 ⊢ <;> omega
  · rw [hl1.out, List.length_append, endsL_len, endsL_len, HA.out, HA2.out] at hlen
    omega
end Go.Proofs.Ytehlijnhhbdbhaa
