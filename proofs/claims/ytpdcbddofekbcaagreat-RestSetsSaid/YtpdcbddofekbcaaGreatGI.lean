/-
  turn of the program: walked. rows of roads, one of them written: the others are kept. roads that a callee made, turned one by one and appended: the step, plain. Pairs of roads, put behind one another and pushed: the step, plain. No condition.
-/
import Derived.Test.YtpdcbddofekbcaaGreatGT
import Derived.Test.YtpdcbddofekbcaaGreatGD
import Derived.Laws.OwnMore
namespace Go.Proofs.YtpdcbddofekbcaaGreat
open Go.RowKit
set_option linter.unusedVariables false
set_option maxRecDepth 100000 in
set_option maxHeartbeats 1000000 in
theorem turn_2 (x y : Int × Int) (base g c : Nat) (w : World) (hown : w.ownsRow base 25 2 (.slice (some ⟨g, 0, none⟩) 2 c) 2 (rngs [x, y])) :
    Calls Tryz.prog 59 #[.slice (some ⟨g, 0, none⟩) 2 c, .bool true] w fun e w' => e = .returned (.slice (some ⟨g, 0, none⟩) 2 c) ∧ w'.ownsRow base 25 2 (.slice (some ⟨g, 0, none⟩) 2 c) 2 (rngs [y, x]) ∧ w.grownBy w' (some g) := by
  obtain ⟨x1, x2⟩ := x
  obtain ⟨y1, y2⟩ := y
  have c0 := hown.cellAt 0 (by decide)
  have c1 := hown.cellAt 1 (by decide)
  have c2 := hown.cellAt 2 (by decide)
  have c3 := hown.cellAt 3 (by decide)
  have f0 := hown.frozenAt 0
  have f1 := hown.frozenAt 1
  have f2 := hown.frozenAt 2
  have f3 := hown.frozenAt 3
  simp [rngs] at c0 c1 c2 c3
  have HO := Lib.hid hown
  clear hown
  go_enter Tryz.func59, Tryz.ntmps59
  go_wp2_with fail
  go_loopw [5] (fun i wr => (i = .int .i64 0 ∧ wr = w) ∨ (i = .int .i64 2 ∧ Hid (wr.ownsRow base 25 2 (.slice (some ⟨g, 0, none⟩) 2 c) 2 (rngs [(y1, y2), (x1, x2)])) ∧ Hid (w.grownBy wr (some g)))) (fun i _ => 2 - (intOf i).toNat)
  case atStart => exact .inl ⟨rfl, rfl⟩
  case round =>
    rcases hrel with ⟨rfl, rfl⟩ | ⟨rfl, HR, HG⟩
    · go_wp2_with fail
      go_region
      have s0 := HO.out.stored 0 (.int .i64 y1)
      have s1 := s0.1.stored 1 (.int .i64 y2)
      have s2 := s1.1.stored 2 (.int .i64 x1)
      have s3 := s2.1.stored 3 (.int .i64 x2)
      have HR := Lib.hid (World.ownsRow.drew s3.1)
      have HG := Lib.hid (show wr.grownBy _ (some g) from ((s0.2.trans s1.2).trans s2.2).trans s3.2)
      clear s0 s1 s2 s3
      go_wp2_with fail
      exact ⟨.inr ⟨rfl, HR, Lib.hid ⟨HG.out.os, HG.out.tape, HG.out.output, HG.out.size, HG.out.block⟩⟩, by simp [intOf]⟩
    · go_wp2
      go_ret
      exact ⟨rfl, HR.out, HG.out⟩
set_option maxRecDepth 100000 in
set_option maxHeartbeats 1000000 in
theorem turn_4 (x y z u : Int × Int) (base g c : Nat) (w : World) (hown : w.ownsRow base 25 2 (.slice (some ⟨g, 0, none⟩) 4 c) 4 (rngs [x, y, z, u])) :
    Calls Tryz.prog 59 #[.slice (some ⟨g, 0, none⟩) 4 c, .bool true] w fun e w' => e = .returned (.slice (some ⟨g, 0, none⟩) 4 c) ∧ w'.ownsRow base 25 2 (.slice (some ⟨g, 0, none⟩) 4 c) 4 (rngs [y, x, u, z]) ∧ w.grownBy w' (some g) := by
  obtain ⟨x1, x2⟩ := x
  obtain ⟨y1, y2⟩ := y
  obtain ⟨z1, z2⟩ := z
  obtain ⟨u1, u2⟩ := u
  have HO := Lib.hid hown
  clear hown
  go_enter Tryz.func59, Tryz.ntmps59
  go_wp2_with fail
  go_loopw [5] (fun i wr => (i = .int .i64 0 ∧ Hid (wr.ownsRow base 25 2 (.slice (some ⟨g, 0, none⟩) 4 c) 4 (rngs [(x1, x2), (y1, y2), (z1, z2), (u1, u2)])) ∧ Hid (w.grownBy wr (some g))) ∨ (i = .int .i64 2 ∧ Hid (wr.ownsRow base 25 2 (.slice (some ⟨g, 0, none⟩) 4 c) 4 (rngs [(y1, y2), (x1, x2), (z1, z2), (u1, u2)])) ∧ Hid (w.grownBy wr (some g))) ∨ (i = .int .i64 4 ∧ Hid (wr.ownsRow base 25 2 (.slice (some ⟨g, 0, none⟩) 4 c) 4 (rngs [(y1, y2), (x1, x2), (u1, u2), (z1, z2)])) ∧ Hid (w.grownBy wr (some g)))) (fun i _ => 4 - (intOf i).toNat)
  case atStart => exact .inl ⟨rfl, HO, Lib.hid (World.grownBy.refl _ _)⟩
  case round =>
    rcases hrel with ⟨rfl, HR0, HG0⟩ | ⟨rfl, HR0, HG0⟩ | ⟨rfl, HR0, HG0⟩
    · have c0 := HR0.out.cellAt 0 (by decide)
      have c1 := HR0.out.cellAt 1 (by decide)
      have c2 := HR0.out.cellAt 2 (by decide)
      have c3 := HR0.out.cellAt 3 (by decide)
      have f0 := HR0.out.frozenAt 0
      have f1 := HR0.out.frozenAt 1
      have f2 := HR0.out.frozenAt 2
      have f3 := HR0.out.frozenAt 3
      simp [rngs] at c0 c1 c2 c3
      go_wp2_with fail
      go_region
      have s0 := HR0.out.stored 0 (.int .i64 y1)
      have s1 := s0.1.stored 1 (.int .i64 y2)
      have s2 := s1.1.stored 2 (.int .i64 x1)
      have s3 := s2.1.stored 3 (.int .i64 x2)
      have HR := Lib.hid (World.ownsRow.drew s3.1)
      have hg := (((HG0.out.trans s0.2).trans s1.2).trans s2.2).trans s3.2
      have HG := Lib.hid hg
      clear s0 s1 s2 s3 hg
      go_wp2_with fail
      exact ⟨.inr <| .inl ⟨rfl, HR, Lib.hid ⟨HG.out.os, HG.out.tape, HG.out.output, HG.out.size, HG.out.block⟩⟩, by simp [intOf]⟩
    · have c0 := HR0.out.cellAt 4 (by decide)
      have c1 := HR0.out.cellAt 5 (by decide)
      have c2 := HR0.out.cellAt 6 (by decide)
      have c3 := HR0.out.cellAt 7 (by decide)
      have f0 := HR0.out.frozenAt 4
      have f1 := HR0.out.frozenAt 5
      have f2 := HR0.out.frozenAt 6
      have f3 := HR0.out.frozenAt 7
      simp [rngs] at c0 c1 c2 c3
      go_wp2_with fail
      go_region
      have s0 := HR0.out.stored 4 (.int .i64 u1)
      have s1 := s0.1.stored 5 (.int .i64 u2)
      have s2 := s1.1.stored 6 (.int .i64 z1)
      have s3 := s2.1.stored 7 (.int .i64 z2)
      have HR := Lib.hid (World.ownsRow.drew s3.1)
      have hg := (((HG0.out.trans s0.2).trans s1.2).trans s2.2).trans s3.2
      have HG := Lib.hid hg
      clear s0 s1 s2 s3 hg
      go_wp2_with fail
      exact ⟨.inr <| .inr ⟨rfl, HR, Lib.hid ⟨HG.out.os, HG.out.tape, HG.out.output, HG.out.size, HG.out.block⟩⟩, by simp [intOf]⟩
    · go_wp2
      go_ret
      exact ⟨rfl, HR0.out, HG0.out⟩
set_option maxRecDepth 100000 in
theorem turn_no (v : Value) (hv : ∃ A n c, v = .slice A n c) (w : World) : Calls Tryz.prog 59 #[v, .bool false] w fun e w' => e = .returned v ∧ w' = w := by
  obtain ⟨A, n, c, rfl⟩ := hv
  go_enter Tryz.func59, Tryz.ntmps59
  go_wp2_with fail
  go_loopw [5] (fun i wr => wr = w) (fun i _ => 0)
  case atStart => rfl
  case round =>
    subst hrel
    go_wp2
    go_ret
    exact ⟨rfl, rfl⟩
/-- turn, of a road of two or four bytes that the caller owns -/
theorem turn_all (little : Bool) (r : List (Int × Int)) (base n c : Nat) (A : Option Addr) (w : World) (hr : r.length = 2 ∨ r.length = 4) (hown : w.ownsRow base 25 2 (.slice A n c) n (rngs r)) :
    Calls Tryz.prog 59 #[.slice A n c, .bool little] w fun e w' => e = .returned (.slice A n c) ∧ w'.ownsRow base 25 2 (.slice A n c) n (rngs (if little = true then turnL r else r)) ∧ w.grownBy w' (Value.slice A n c).ownBlock := by
  cases little
  · refine (turn_no _ ⟨A, n, c, rfl⟩ w).mono ?_
    rintro e w' ⟨rfl, rfl⟩
    exact ⟨rfl, hown, World.grownBy.refl _ _⟩
  · have hn : n = r.length := by have h := hown.1; rw [rngs_length] at h; omega
    subst hn
    rcases hown.2 with ⟨h1, _⟩ | ⟨g, cap, cur, h1, _⟩
    · injection h1 with _ h2
      omega
    · injection h1 with h1 h2 h3
      subst h1
      rcases hr with hr | hr
      · match r, hr with
        | [x, y], _ => exact turn_2 x y base g c w hown
      · match r, hr with
        | [x, y, z, u], _ => exact turn_4 x y z u base g c w hown
end Go.Proofs.YtpdcbddofekbcaaGreat
namespace Go.Proofs.YtpdcbddofekbcaaGreat
open Go.RowKit
set_option linter.unusedVariables false
theorem OwnSls.turned {w w' : World} {base k n : Nat} {vs : List Value} {ls : List (List (Int × Int))} {r' : List (Int × Int)} (h : OwnSls w base vs ls) (hk : k < vs.length) (hr : w'.ownsRow base 25 2 vs[k] n (rngs r')) (hg : w.grownBy w' vs[k].ownBlock) : OwnSls w' base vs (ls.set k r') := by
  refine ⟨by rw [List.length_set, h.1], fun j h1 h2 => ?_, h.2.2⟩
  rw [List.length_set] at h2
  by_cases e : j = k
  · subst e
    exact ⟨n, by rw [List.getElem_set_self]; exact hr⟩
  · obtain ⟨m, hm⟩ := h.2.1 j h1 h2
    refine ⟨m, ?_⟩
    rw [List.getElem_set_ne (by omega)]
    refine own_kept hm hg fun g hv hj => ?_
    rcases Nat.lt_or_gt_of_ne e with lt | gt
    · exact List.pairwise_iff_getElem.1 h.2.2 j k h1 hk lt g hj hv
    · exact List.pairwise_iff_getElem.1 h.2.2 k j hk h1 gt g hv hj
theorem OwnSls.keptBy {w w' : World} {base : Nat} {v : Value} {vs : List Value} {ls : List (List (Int × Int))} (h : OwnSls w base vs ls) (hg : w.grownBy w' v.ownBlock) (hne : ∀ u ∈ vs, ∀ g, v.ownBlock = some g → u.ownBlock ≠ some g) : OwnSls w' base vs ls :=
  ⟨h.1, fun j h1 h2 => by
    obtain ⟨m, hm⟩ := h.2.1 j h1 h2
    exact ⟨m, own_kept hm hg fun g hv hj => hne _ (List.getElem_mem h1) g hv hj⟩, h.2.2⟩
/-- the first j of the roads turned, if so -/
def turnB (little : Bool) (r : List (Int × Int)) : List (Int × Int) := if little = true then turnL r else r
def turnJ (little : Bool) (ls : List (List (Int × Int))) (j : Nat) : List (List (Int × Int)) := (ls.take j).map (turnB little) ++ ls.drop j
theorem turnJ_zero (little : Bool) (ls : List (List (Int × Int))) : turnJ little ls 0 = ls := rfl
theorem turnJ_at (little : Bool) (ls : List (List (Int × Int))) {j : Nat} (h : j < ls.length) : ∃ h' : j < (turnJ little ls j).length, (turnJ little ls j)[j] = ls[j] := by
  have e : ((ls.take j).map (turnB little)).length = j := by rw [List.length_map, List.length_take]; omega
  refine ⟨by unfold turnJ; rw [List.length_append, e, List.length_drop]; omega, ?_⟩
  unfold turnJ
  rw [List.getElem_append_right (by omega)]
  simp only [e, Nat.sub_self, List.getElem_drop, Nat.add_zero]
theorem turnJ_succ (little : Bool) (ls : List (List (Int × Int))) {j : Nat} (h : j < ls.length) : (turnJ little ls j).set j (turnB little ls[j]) = turnJ little ls (j + 1) := by
  have e : ((ls.take j).map (turnB little)).length = j := by rw [List.length_map, List.length_take]; omega
  unfold turnJ
  rw [List.set_append_right _ _ (by omega), e, Nat.sub_self, List.drop_eq_getElem_cons h, List.set_cons_zero, List.take_succ_eq_append_getElem h, List.map_append, List.append_assoc]
  rfl
end Go.Proofs.YtpdcbddofekbcaaGreat
namespace Go.Proofs.YtpdcbddofekbcaaGreat
open Go.RowKit
set_option linter.unusedVariables false
def TJ (W1 w3 : World) (H1 H2 : Nat) (o : Value) (n : Nat) (vs0 : List Value) (ms : List (List (Int × Int))) (A2 : Option Addr) (m2 k2 : Nat) (vs2 : List Value) (ls2 : List (List (Int × Int))) (little : Bool) (i j : Nat) : Prop :=
  w3.ownsRow W1.heap.size 22 1 o n (vs0 ++ vs2.take i) ∧ OwnSls w3 W1.heap.size (vs0 ++ vs2.take i) (ms ++ (ls2.take i).map (turnB little)) ∧ Below W1.heap.size W1 w3 ∧ (∀ g, o.ownBlock = some g → g < H1 ∨ H2 ≤ g) ∧ Mid w3 H1 H2 A2 m2 k2 vs2 (turnJ little ls2 j)
section
variable {W1 w3 w4 w5 : World} {H1 H2 n m2 k2 j k : Nat} {o v5 : Value} {vs0 vs2 : List Value} {ms ls2 : List (List (Int × Int))} {A2 : Option Addr} {little : Bool}
theorem TJ.turn (h : TJ W1 w3 H1 H2 o n vs0 ms A2 m2 k2 vs2 ls2 little j j) (hw : W1.heap.size ≤ H1) (hj : j < vs2.length) (hl : j < ls2.length) (hf : ∀ u ∈ vs0, ∀ x ∈ vs2, ∀ g, u.ownBlock = some g → x.ownBlock ≠ some g)
    (hr : w4.ownsRow H1 25 2 vs2[j] k (rngs (turnB little ls2[j]))) (hr3 : w3.ownsRow H1 25 2 vs2[j] k (rngs ls2[j])) (hg : w3.grownBy w4 vs2[j].ownBlock) : TJ W1 w4 H1 H2 o n vs0 ms A2 m2 k2 vs2 ls2 little j (j + 1) := by
  obtain ⟨h1, h2, h3, h4, h5⟩ := h
  refine ⟨own_kept h1 hg (own_ne_type hr3 h1 (by decide)), h2.keptBy hg ?_, ?_, h4, own_kept h5.1 hg (own_ne_type hr3 h5.1 (by decide)), ?_, h5.2.2.1, Nat.le_trans h5.2.2.2 hg.size⟩
  · intro u hu g hv hug
    rcases List.mem_append.1 hu with hu | hu
    · exact hf u hu _ (List.getElem_mem hj) g hug hv
    · obtain ⟨i, hi, rfl⟩ := List.mem_take_iff_getElem.1 hu
      exact List.pairwise_iff_getElem.1 h5.2.1.2.2 i j (by omega) hj (by omega) g hug hv
  · exact h3.grown hg h3.size fun q hq => by have := hr3.lt q hq; omega
  · rw [← turnJ_succ little ls2 hl]
    exact h5.2.1.turned hj hr hg
theorem TJ.push (h : TJ W1 w4 H1 H2 o n vs0 ms A2 m2 k2 vs2 ls2 little j (j + 1)) (hw : W1.heap.size ≤ H1) (hj : j < vs2.length) (hl : j < ls2.length) (hf : ∀ u ∈ vs0, ∀ x ∈ vs2, ∀ g, u.ownBlock = some g → x.ownBlock ≠ some g)
    (hr : w4.ownsRow H1 25 2 vs2[j] k (rngs (turnB little ls2[j]))) (x : Obj) (hown : w5.ownsRow W1.heap.size 22 1 v5 (n + 1) ((vs0 ++ vs2.take j) ++ [vs2[j]])) (hg : (w4.alloc x).grownBy w5 o.ownBlock) (hat : v5.ownBlock = o.ownBlock ∨ v5.ownBlock = some (w4.alloc x).heap.size) :
    TJ W1 w5 H1 H2 v5 (n + 1) vs0 ms A2 m2 k2 vs2 ls2 little (j + 1) (j + 1) := by
  obtain ⟨h1, h2, h3, h4, h5⟩ := h
  have h1a := h1.alloc x
  have h5a : Mid (w4.alloc x) H1 H2 A2 m2 k2 vs2 (turnJ little ls2 (j + 1)) := ⟨h5.1.alloc x, h5.2.1.alloc x, h5.2.2.1, Nat.le_trans h5.2.2.2 (by simp)⟩
  have e1 : vs0 ++ vs2.take (j + 1) = (vs0 ++ vs2.take j) ++ [vs2[j]] := by rw [List.take_succ_eq_append_getElem hj, List.append_assoc]
  have e2 : ms ++ (ls2.take (j + 1)).map (turnB little) = (ms ++ (ls2.take j).map (turnB little)) ++ [turnB little ls2[j]] := by rw [List.take_succ_eq_append_getElem hl, List.map_append, List.append_assoc]; rfl
  refine ⟨by rw [e1]; exact hown, ?_, grown_own (h3.alloc h3.size _) h1a hg (Nat.le_refl _) (by have := h3.size; simp; omega), ?_, h5a.kept h1a hg h4⟩
  · rw [e1, e2]
    refine OwnSls.kept ((h2.alloc x).append (OwnSls.one ((own_mono hr hw).alloc x)) ?_) h1a hg
    intro u hu y hy g h6 h7
    rw [List.mem_singleton.1 hy] at h7
    rcases List.mem_append.1 hu with hu | hu
    · exact hf u hu _ (List.getElem_mem hj) g h6 h7
    · obtain ⟨i, hi, rfl⟩ := List.mem_take_iff_getElem.1 hu
      exact List.pairwise_iff_getElem.1 h5.2.1.2.2 i j (by omega) hj (by omega) g h6 h7
  · intro g hv
    rcases hat with e | e
    · exact h4 g (by rw [← e]; exact hv)
    · rw [e] at hv
      injection hv with hv
      exact .inr (by rw [← hv]; exact h5a.2.2.2)
end
end Go.Proofs.YtpdcbddofekbcaaGreat
namespace Go.Proofs.YtpdcbddofekbcaaGreat
open Go.RowKit
set_option linter.unusedVariables false
/-- out while pairs are pushed; the roads of two callees stay where they are -/
def PJ (W1 w : World) (H1 H2 H3 H4 : Nat) (o : Value) (n : Nat) (vs : List Value) (ls : List (List (Int × Int))) : Prop :=
  w.ownsRow W1.heap.size 22 1 o n vs ∧ OwnSls w W1.heap.size vs ls ∧ Below W1.heap.size W1 w ∧ (∀ g, o.ownBlock = some g → (g < H1 ∨ H2 ≤ g) ∧ (g < H3 ∨ H4 ≤ g))
section
variable {W1 w w' w5 w6 : World} {H1 H2 H3 H4 n m : Nat} {o v3 v6 : Value} {vs : List Value} {ls : List (List (Int × Int))} {r : List (Int × Int)}
theorem PJ.below (h : PJ W1 w H1 H2 H3 H4 o n vs ls) (hb : Below w.heap.size w w') : PJ W1 w' H1 H2 H3 H4 o n vs ls :=
  ⟨own_below h.1 hb (Nat.le_refl _), h.2.1.below hb, h.2.2.1.trans (hb.mono h.2.2.1.size), h.2.2.2⟩
/-- a second callee's roads: behind all that lay -/
theorem PJ.shift (h : PJ W1 w H1 H2 H1 H2 o n vs ls) (hb : Below w.heap.size w w') : PJ W1 w' H1 H2 w.heap.size w'.heap.size o n vs ls := by
  have h' := h.below hb
  exact ⟨h'.1, h'.2.1, h'.2.2.1, fun g hg => ⟨(h.2.2.2 g hg).1, .inl (h.1.lt g hg).2⟩⟩
theorem PJ.back (h : PJ W1 w H1 H2 H3 H4 o n vs ls) : PJ W1 w H1 H2 H1 H2 o n vs ls := ⟨h.1, h.2.1, h.2.2.1, fun g hg => ⟨(h.2.2.2 g hg).1, (h.2.2.2 g hg).1⟩⟩
theorem PJ.val (h : PJ W1 w H1 H2 H3 H4 o n vs ls) : RoadsVal W1 w ls o := .of h.1 h.2.1 h.2.2.1
theorem PJ.count (h : PJ W1 w H1 H2 H3 H4 o n vs ls) : n = ls.length := own_count h.1 h.2.1
/-- out, and a callee's roads behind it -/
theorem PJ.of {A : Option Addr} {c : Nat} (h1 : w.ownsRow W1.heap.size 22 1 (.slice A n c) n vs) (h2 : OwnSls w W1.heap.size vs ls) (h3 : Below W1.heap.size W1 w) (hb : Below w.heap.size w w') : PJ W1 w' w.heap.size w'.heap.size w.heap.size w'.heap.size (.slice A n c) n vs ls :=
  ⟨own_below h1 hb (Nat.le_refl _), h2.below hb, h3.trans (hb.mono h3.size), fun g hg => ⟨.inl (h1.lt g hg).2, .inl (h1.lt g hg).2⟩⟩
/-- a new road is pushed -/
theorem PJ.push (h : PJ W1 w H1 H2 H3 H4 o n vs ls) (hb : Below w.heap.size w w5) (hr : w5.ownsRow w.heap.size 25 2 v3 m (rngs r)) (k2 : H2 ≤ w.heap.size) (k4 : H4 ≤ w.heap.size) (x : Obj)
    (hown : w6.ownsRow W1.heap.size 22 1 v6 (n + 1) (vs ++ [v3])) (hg : (w5.alloc x).grownBy w6 o.ownBlock) (hat : v6.ownBlock = o.ownBlock ∨ v6.ownBlock = some (w5.alloc x).heap.size) : PJ W1 w6 H1 H2 H3 H4 v6 (n + 1) (vs ++ [v3]) (ls ++ [r]) := by
  have h5 := h.below hb
  have hz := hb.size
  have hv := RoadsVal.push (w := W1) (W := w5.alloc x) (h5.1.alloc x) (h5.2.1.alloc x) (h5.2.2.1.alloc h5.2.2.1.size x) ((own_mono hr h.2.2.1.size).alloc x) hown hg (h.2.1.fresh hr)
  refine ⟨hown, ?_, ?_, fun g hv => ?_⟩
  · exact ((h5.2.1.alloc x).append (OwnSls.one ((own_mono hr h.2.2.1.size).alloc x)) (h.2.1.fresh hr)).kept (h5.1.alloc x) hg
  · exact grown_own (h5.2.2.1.alloc h5.2.2.1.size x) (h5.1.alloc x) hg (Nat.le_refl _) (by have := h5.2.2.1.size; simp; omega)
  · rcases hat with e | e
    · exact h.2.2.2 g (by rw [← e]; exact hv)
    · rw [e] at hv
      injection hv with hv
      have ez : (w5.alloc x).heap.size = w5.heap.size + 1 := by simp
      rw [ez] at hv
      exact ⟨.inr (by omega), .inr (by omega)⟩
/-- what else stays while it is pushed -/
theorem PJ.mid1 (h : PJ W1 w H1 H2 H3 H4 o n vs ls) (hb : Below w.heap.size w w5) (x : Obj) (hg : (w5.alloc x).grownBy w6 o.ownBlock) {A : Option Addr} {a c : Nat} {us : List Value} {ms : List (List (Int × Int))} (k : Mid w H1 H2 A a c us ms) : Mid w6 H1 H2 A a c us ms := by
  have k5 := k.below hb
  have ka : Mid (w5.alloc x) H1 H2 A a c us ms := ⟨k5.1.alloc x, k5.2.1.alloc x, k5.2.2.1, Nat.le_trans k5.2.2.2 (by simp)⟩
  exact ka.kept ((h.below hb).1.alloc x) hg fun g hg => (h.2.2.2 g hg).1
theorem PJ.mid2 (h : PJ W1 w H1 H2 H3 H4 o n vs ls) (hb : Below w.heap.size w w5) (x : Obj) (hg : (w5.alloc x).grownBy w6 o.ownBlock) {A : Option Addr} {a c : Nat} {us : List Value} {ms : List (List (Int × Int))} (k : Mid w H3 H4 A a c us ms) : Mid w6 H3 H4 A a c us ms := by
  have k5 := k.below hb
  have ka : Mid (w5.alloc x) H3 H4 A a c us ms := ⟨k5.1.alloc x, k5.2.1.alloc x, k5.2.2.1, Nat.le_trans k5.2.2.2 (by simp)⟩
  exact ka.kept ((h.below hb).1.alloc x) hg fun g hg => (h.2.2.2 g hg).2
theorem PJ.row (h : PJ W1 w H1 H2 H3 H4 o n vs ls) (hb : Below w.heap.size w w5) (x : Obj) (hg : (w5.alloc x).grownBy w6 o.ownBlock) {v : Value} {b a : Nat} {xs : List Value} (k : w.ownsRow b 25 2 v a xs) : w6.ownsRow b 25 2 v a xs := by
  have k5 := (own_below k hb (Nat.le_refl _)).alloc x
  exact own_kept k5 hg (own_ne_type ((h.below hb).1.alloc x) k5 (by decide))
theorem slsPair {v u : Value} {x y : List (Int × Int)} {a b k l : Nat} (hv : w.ownsRow a 25 2 v k (rngs x)) (hu : w.ownsRow b 25 2 u l (rngs y)) (z : Obj) : Sls (w.alloc z) (w.alloc z).heap.size [v, u] [x, y] := by
  refine ⟨rfl, fun i h1 h2 => ?_⟩
  obtain ⟨A, c, rfl, q1, q2⟩ := own_slice hv
  obtain ⟨B, d, rfl, q3, q4⟩ := own_slice hu
  have hi : i = 0 ∨ i = 1 := by simp at h1; omega
  rcases hi with rfl | rfl
  · exact ⟨A, k, c, rfl, q1, q2, Rds.of_own (hv.alloc z)⟩
  · exact ⟨B, l, d, rfl, q3, q4, Rds.of_own (hu.alloc z)⟩
end
end Go.Proofs.YtpdcbddofekbcaaGreat
