/- cut and packed of the program, for any points: walked. -/
import Derived.Test.YtihodjfnhkihiaaSplC
import Derived.Test.YtihodjfnhkihiaaSpQ
namespace Go.Proofs.Ytihodjfnhkihiaa
open Go.RowKit
set_option linter.unusedVariables false
/-- it hands back roads of its own, of which P is true -/
def RoadsP (w : World) (P : List (List (Int × Int)) → Prop) (e : Ending) (w' : World) : Prop := ∃ ls, Hid (P ls) ∧ RoadsOut w ls e w'
/-- what the closure cut reads, whatever it stands for -/
def CutE (w : World) (pb pm pc gm k : Nat) (mk : Int) : Prop :=
  w.cell? ⟨pb, 0, none⟩ = some (.int .i64 (k : Int)) ∧ w.cell? ⟨pm, 0, none⟩ = some (.slice (some ⟨gm, 0, none⟩) 5 5) ∧ w.cell? ⟨gm, k, none⟩ = some (.int .i64 mk) ∧
  w.cell? ⟨pc, 0, none⟩ = some (.func (.func 55) #[] #[.pointer (some ⟨pb, 0, none⟩), .pointer (some ⟨pm, 0, none⟩), .pointer (some ⟨pc, 0, none⟩)])
def CutL (w : World) (pb pm pc gm : Nat) : Prop := pb < w.heap.size ∧ pm < w.heap.size ∧ pc < w.heap.size ∧ gm < w.heap.size
theorem CutE.below {w w' : World} {pb pm pc gm k : Nat} {mk : Int} (h : CutE w pb pm pc gm k mk) (hl : CutL w pb pm pc gm) (hb : Below w.heap.size w w') : CutE w' pb pm pc gm k mk := by
  obtain ⟨h1, h2, h3, h4⟩ := h
  obtain ⟨l1, l2, l3, l4⟩ := hl
  exact ⟨by rw [hb.cell (p := ⟨pb, 0, none⟩) l1]; exact h1, by rw [hb.cell (p := ⟨pm, 0, none⟩) l2]; exact h2, by rw [hb.cell (p := ⟨gm, k, none⟩) l4]; exact h3, by rw [hb.cell (p := ⟨pc, 0, none⟩) l3]; exact h4⟩
theorem CutL.below {w w' : World} {pb pm pc gm : Nat} (h : CutL w pb pm pc gm) (hb : Below w.heap.size w w') : CutL w' pb pm pc gm := by
  have := hb.size
  obtain ⟨l1, l2, l3, l4⟩ := h
  exact ⟨by omega, by omega, by omega, by omega⟩
/-- roads that stand in a part of the heap, kept while others are written -/
def Mid (w : World) (H1 H2 : Nat) (A : Option Addr) (n c : Nat) (vs : List Value) (ls : List (List (Int × Int))) : Prop :=
  w.ownsRow H1 22 1 (.slice A n c) n vs ∧ OwnSls w H1 vs ls ∧ (∀ g, (Value.slice A n c).ownBlock = some g → g < H2) ∧ H2 ≤ w.heap.size
theorem Mid.below {w w' : World} {H1 H2 n c : Nat} {A : Option Addr} {vs : List Value} {ls : List (List (Int × Int))} (h : Mid w H1 H2 A n c vs ls) (hb : Below w.heap.size w w') : Mid w' H1 H2 A n c vs ls :=
  ⟨own_below h.1 hb (Nat.le_refl _), h.2.1.below hb, h.2.2.1, Nat.le_trans h.2.2.2 hb.size⟩
theorem Mid.kept {w w' : World} {H1 H2 n c b m : Nat} {A : Option Addr} {v : Value} {vs us : List Value} {ls : List (List (Int × Int))} (h : Mid w H1 H2 A n c vs ls) (ho : w.ownsRow b 22 1 v m us) (hg : w.grownBy w' v.ownBlock) (hne : ∀ g, v.ownBlock = some g → g < H1 ∨ H2 ≤ g) : Mid w' H1 H2 A n c vs ls :=
  ⟨own_kept h.1 hg (fun g hv hA => by
    rcases hne g hv with k | k
    · have := h.1.lt g hA
      omega
    · have := h.2.2.1 g hA; omega), h.2.1.kept ho hg, h.2.2.1, Nat.le_trans h.2.2.2 hg.size⟩
theorem RoadsVal.push {w W w4 : World} {ls : List (List (Int × Int))} {r : List (Int × Int)} {o v3 v4 : Value} {n m : Nat} {vs : List Value} (ho : W.ownsRow w.heap.size 22 1 o n vs) (hs : OwnSls W w.heap.size vs ls) (hb : Below w.heap.size w W)
    (h3 : W.ownsRow w.heap.size 31 2 v3 m (rngs r)) (h4 : w4.ownsRow w.heap.size 22 1 v4 (n + 1) (vs ++ [v3])) (hg : W.grownBy w4 o.ownBlock) (hf : ∀ u ∈ vs, ∀ x ∈ [v3], ∀ g, u.ownBlock = some g → x.ownBlock ≠ some g) : RoadsVal w w4 (ls ++ [r]) v4 :=
  .of h4 ((hs.append (OwnSls.one h3) hf).kept ho hg) (grown_own hb ho hg (Nat.le_refl _) hb.size)
/-- the first j of these roads, a byte ahead of each -/
def preT (t : Int) (ls : List (List (Int × Int))) (j : Nat) : List (List (Int × Int)) := (ls.take j).map fun r => (t, t) :: r
theorem preT_zero (t : Int) (ls : List (List (Int × Int))) : preT t ls 0 = [] := rfl
theorem preT_succ (t : Int) (ls : List (List (Int × Int))) {j : Nat} (h : j < ls.length) : preT t ls j ++ [(t, t) :: ls[j]] = preT t ls (j + 1) := by
  unfold preT
  rw [List.take_succ_eq_append_getElem h, List.map_append]
  rfl
theorem preT_all (t : Int) (ls : List (List (Int × Int))) {j : Nat} (h : ls.length ≤ j) : preT t ls j = ls.map fun r => (t, t) :: r := by
  unfold preT
  rw [List.take_of_length_le h]
theorem preT_len (t : Int) (ls : List (List (Int × Int))) (j : Nat) : (preT t ls j).length ≤ ls.length := by
  unfold preT
  rw [List.length_map, List.length_take]; omega
theorem below_two {w w3 : World} {o : Obj} {v0 : Value} {e : TypeId} {k m : Nat} {xs : List Value} (h0 : (w.alloc o).ownsRow w.heap.size e k v0 m xs) (hg : (w.alloc o).grownBy w3 v0.ownBlock) (o2 : Obj) : Below w.heap.size w (w3.alloc o2) := by
  have B3 : Below w.heap.size w w3 := grown_own ((Below.refl _ _).alloc (Nat.le_refl _) _) h0 hg (Nat.le_refl _) (by simp)
  exact B3.alloc B3.size _
theorem own_count {w : World} {base n : Nat} {v : Value} {vs : List Value} {ls : List (List (Int × Int))} (h : w.ownsRow base 22 1 v n vs) (k : OwnSls w base vs ls) : n = ls.length := by
  have h1 := h.1
  have h2 := k.1
  omega
/-- what cut says of fewer digits -/
def CutC (w : World) (pb pm pc gm n : Nat) : Prop := ∀ (wr w' : World), Below w.heap.size w wr → Below wr.heap.size wr w' → ∀ c d : Int, 0 ≤ c → c ≤ d → d < (64 : Int) ^ n →
  Calls Try.prog 55 #[.int .i64 c, .int .i64 d, .int .i64 (n : Int), .pointer (some ⟨pb, 0, none⟩), .pointer (some ⟨pm, 0, none⟩), .pointer (some ⟨pc, 0, none⟩)] w' fun e w1 =>
    ∃ A m k vs ls, e = .returned (.slice A m k) ∧ Hid (RC ls (ENum 64 128 128 (n - 1) c d) n (d - c + 1)) ∧ Hid (Mid w1 wr.heap.size w1.heap.size A m k vs ls) ∧ Hid (Below wr.heap.size wr w1)
theorem CutC.of {w : World} {pb pm pc gm n : Nat} (h : ∀ (w' : World), Below w.heap.size w w' → ∀ c d : Int, 0 ≤ c → c ≤ d → d < (64 : Int) ^ n →
    Calls Try.prog 55 #[.int .i64 c, .int .i64 d, .int .i64 (n : Int), .pointer (some ⟨pb, 0, none⟩), .pointer (some ⟨pm, 0, none⟩), .pointer (some ⟨pc, 0, none⟩)] w' (RoadsP w' fun ls => RC ls (ENum 64 128 128 (n - 1) c d) n (d - c + 1))) : CutC w pb pm pc gm n := by
  intro wr w' h1 h2 c d hc hcd hd
  refine (h w' (h1.trans (h2.mono h1.size)) c d hc hcd hd).mono ?_
  rintro e w1 ⟨ls, hp, A, m, k, vs, rfl, _, _, k1, k2, k3⟩
  refine ⟨A, m, k, vs, ls, rfl, hp, Lib.hid ⟨own_mono k1.out h2.size, k2.out.mono h2.size, fun g hg => ?_, Nat.le_refl _⟩, Lib.hid (h2.trans (k3.mono h2.size))⟩
  rcases k1.out.2 with ⟨e1, _⟩ | ⟨g1, cap, cur, e1, _, hh, _⟩
  · cases e1; simp [Value.ownBlock] at hg
  · injection e1 with e1
    subst e1
    simp [Value.ownBlock] at hg
    subst hg
    exact (Array.getElem?_eq_some_iff.1 hh).1
set_option maxRecDepth 100000 in
set_option maxHeartbeats 1000000 in
theorem cutL_1 (a b : Int) (B : Nat) (mk : Int) (pb pm pc gm : Nat) (w : World) (h : CutE w pb pm pc gm B mk) (hB : 2 ≤ B ∧ B ≤ 4) (ha : 0 ≤ a ∧ a ≤ b) (hb : b ≤ 63) :
    Calls Try.prog 55 #[.int .i64 a, .int .i64 b, .int .i64 1, .pointer (some ⟨pb, 0, none⟩), .pointer (some ⟨pm, 0, none⟩), .pointer (some ⟨pc, 0, none⟩)] w (RoadsP w fun ls => RC ls (ENum 64 128 128 0 a b) 1 (b - a + 1)) := by
  obtain ⟨c1, c2, c3, c4⟩ := h
  obtain ⟨a0, a1⟩ := ha
  obtain ⟨B0, B1⟩ := hB
  have H := Lib.hid (road_one w (128 + a) (128 + b))
  have HC := Lib.hid (RC.one 64 128 128 (a := a) (b := b) (by omega) (by omega) (by omega))
  have hne : ¬ (1 : Int) = (B : Int) := by omega
  go_enter Try.func55, Try.ntmps55
  go_wp2
  go_ret
  exact ⟨_, HC, H.out⟩
end Go.Proofs.Ytihodjfnhkihiaa
