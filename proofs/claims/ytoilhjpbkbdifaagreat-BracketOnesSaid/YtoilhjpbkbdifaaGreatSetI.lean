/-
  MakeOf, NotOf, MeetOf and UnionOf of the reference, walked: each a right set of just its points.
-/
import Derived.Test.YtoilhjpbkbdifaaGreatSetF
import Derived.Test.YtoilhjpbkbdifaaGreatSetG
import Derived.Shelf.Abstract
namespace Go.Proofs.YtoilhjpbkbdifaaGreat
open Go.RowKit
set_option linter.unusedVariables false
def RefSet (w : World) (f : Int → Prop) (k : Nat) (e : Ending) (w' : World) : Prop := ∃ out, IsSet out f ∧ out.length ≤ k ∧ OwnRngs w out e w'
theorem memB_range {a : List (Int × Int)} (h : ∀ r ∈ a, okR r = true) {p : Int} (hp : memB a p = true) : 0 ≤ p ∧ p ≤ 1114111 := by
  obtain ⟨r, hr, h1, h2⟩ := (memB_iff a p).1 hp
  have := (okR_iff r).1 (h r hr)
  omega
set_option maxHeartbeats 1000000 in
theorem makeOf_any (a : List (Int × Int)) (A : Option Addr) (n c : Nat) (w : World) (hn : n ≤ 40000) (hc : c ≤ maxLen) (hok : ∀ r ∈ a, okR r = true) (ha : Rds w w.heap.size 2 A n (rngs a)) :
    Calls Tryz.prog 8 #[.slice A n c] w (RefSet w (fun p => mem a p) (n * 2 + 1)) := by
  have HOK := Lib.hid hok
  have HA := Lib.hid ha.rngs_len
  have eg : ∀ args w, (callFunc 15 args).run Tryz.prog w = .ok (.enter 15 args) w := enters_of Tryz.func15 (by kernel_rfl) rfl
  have EG := Lib.hid eg
  clear eg hok
  go_enter Tryz.func8, Tryz.ntmps8
  go_wp2_with fail
  refine (endsOf_any a [] A none n 0 c 0 _ (by omega) HOK.out (by simp) ((ha.alloc (Nat.le_refl _) _).more (by simp)) (Rds.nil_ _ _ _ _)).mono ?_
  rintro e w1 ⟨A1, n1, c1, rfl, hown, hb⟩
  have hl1 := Lib.hid (own_ints_len hown)
  have hbx : w1.cell? ⟨w.heap.size, 0, none⟩ = some (.slice A n c) := by rw [hb.cell (p := ⟨w.heap.size, 0, none⟩) (by simp)]; simp
  have hs1 := hb.size
  simp at hs1
  have B0 : Below w.heap.size w w1 := Below.trans (by go_grown) (hb.mono (by simp))
  go_wp2_with fail
  have ha1 := (ha.below B0 (Nat.le_refl _))
  refine (setOf_any (endsL a ++ endsL []) (memB a) A1 n1 c1 15 #[.pointer (some ⟨w.heap.size, 0, none⟩)] w1 (by rw [hl1.out, List.length_append, endsL_len, endsL_len, HA.out]; simp; omega) (Rds.of_own hown) EG.out
    (fun p w' hbw => clo75 a p _ A n c w' w.heap.size (by unfold maxLen; omega) (ha1.below hbw (by omega)) (by rw [hbw.cell (p := ⟨w.heap.size, 0, none⟩) (by simp; omega)]; exact hbx)) (fun p _ _ hp => memB_change a p (by simpa [endsL] using hp))).mono ?_
  rintro e w2 ⟨out, hset, hlen, A2, n2, c2, rfl, hown2, hb2⟩
  go_wp2
  go_ret
  refine ⟨out, ⟨hset.1, fun p => ?_⟩, ?_, ownRngs_of rfl (own_mono hown2 (by omega)) (B0.trans (hb2.mono (by omega)))⟩
  · refine (hset.2 p).trans ?_
    show (0 ≤ p ∧ p ≤ 1114111 ∧ memB a p = true) ↔ mem a p
    rw [memB_iff]
    exact ⟨fun h => h.2.2, fun h => ⟨(memB_range HOK.out ((memB_iff a p).2 h)).1, (memB_range HOK.out ((memB_iff a p).2 h)).2, h⟩⟩
  · rw [hl1.out, List.length_append, endsL_len, endsL_len, HA.out] at hlen
    simpa using hlen
end Go.Proofs.YtoilhjpbkbdifaaGreat
