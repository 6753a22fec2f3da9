/- showBegun: walked. -/
import Derived.Test.YtbekjfoefjnidaaDoorShC
import Derived.Test.YtbekjfoefjnidaaDoorFsAO
namespace Go.Proofs.YtbekjfoefjnidaaDoor
open Go.RowKit Go.Maps
set_option linter.unusedVariables false
def leafTr (k : Int) : Tr := .mk k [] [] 0 0 0 0 false
def leafD (k : Int) : ND := ⟨k, none, 0, 0, none, 0, 0, 0, 0, 0, 0, false⟩
theorem leaf_node (k : Int) (w : World) : NodeAt w w.heap.size (leafTr k) (leafD k) :=
  .mk (d := leafD k) (s := []) (ks := []) (ds := []) (Rds.nil_ _ _ _ _) (Nat.le_refl _) (show 0 ≤ maxLen by decide) (Rds.nil_ _ _ _ _) (Nat.le_refl _) (show 0 ≤ maxLen by decide) .nil
theorem no_names (w : World) : NamesAt w w.heap.size none 0 [] := ⟨Rds.nil_ _ _ _ _, rfl, by simp, by simp⟩
theorem namesE_nil (gr : Int) : namesE gr [] = 0 := by
  unfold namesE
  rw [if_neg (by simp), if_neg (by simp), if_neg (by unfold Twice; simp), if_neg (by rintro ⟨i, h, _⟩; simp at h)]
theorem leaf_ok : patE (leafTr 3) 0 [] = 0 := by
  rw [patE_ok (by decide), namesE_nil]
theorem IsWr.new (w : World) (g : Nat) : IsWr w.heap.size g [] (w.alloc (.cells #[.pointer none, .slice none 0 0, .map (some g)] 58)) :=
  .inl ⟨.slice none 0 0, heap_alloc_new w _, World.ownsRow_nil _ _ _ _, by simp [Value.ownBlock]⟩
theorem PatN.next {w w' : World} {b : Nat} {d : ND} {gr : Int} {nA : Option Addr} {nn nc : Nat} (h : PatN w b d gr nA nn nc) (hb : Below w.heap.size w w') : PatN w' b d gr nA nn nc := h.below hb h.1.1
set_option maxRecDepth 100000 in
set_option maxHeartbeats 4000000 in
theorem showOne (w : World) : Calls Tryd.prog 9 #[patV (leafD 3) 0 none 0 0] w fun e w' => e = .returned (.tuple #[.string ⟨#[94]⟩, .int .i64 0]) ∧ Below w.heap.size w w' := by
  have hmm := @run_makeMap Tryd.prog
  have HP := Lib.hid (PatN.new w (leafD 3) 0 none 0 0)
  have HB := Lib.hid (patB_below w (leafD 3) 0 none 0 0)
  have C7 := Lib.hid (check27 (leafTr 3) (leafD 3) 0 none 0 0 [] (patB w (leafD 3) 0 none 0 0) (leaf_node 3 _) (no_names _) (Nat.le_refl _) (by unfold maxLen; omega) (by unfold maxLen; omega))
  rw [leaf_ok] at C7
  unfold patV leafD at C7 ⊢
  unfold patB at HP HB C7
  unfold leafD at HP HB
  simp only at HP HB C7 ⊢
  obtain ⟨⟨x0, x1, x2, x3, x4, x5, x6, x7, x8⟩, x9, x10⟩ := HP.out
  go_enter Tryd.func9, Tryd.ntmps9
  go_upto_region 4 with (go_at_call 7; refine C7.out.mono ?_; rintro e w1 ⟨rfl, hb⟩; have HB1 := Lib.hid (below_next HB.out hb); have HP1 := Lib.hid (HP.out.next hb); clear x0 x1 x2 x3 x4 x5 x6 x7 x8 x9 x10; obtain ⟨⟨x0, x1, x2, x3, x4, x5, x6, x7, x8⟩, x9, x10⟩ := HP1.out; clear hb)
  have hlt := HP1.out.1.1
  have HW := Lib.hid (IsWr.new (w1.alloc (.map #[] 0)) w1.heap.size)
  have HB2 := Lib.hid ((Below.refl w1.heap.size w1).alloc (Nat.le_refl _) (.map #[] 0))
  have HB3 := Lib.hid (HB2.out.alloc HB2.out.size (.cells #[.pointer none, .slice none 0 0, .map (some w1.heap.size)] 58))
  have HP3 := Lib.hid (HP1.out.next HB3.out)
  have hs1 : (w1.alloc (.map #[] 0)).heap.size = w1.heap.size + 1 := by simp
  rw [hs1] at HW
  clear hs1
  obtain ⟨⟨y0, y1, y2, y3, y4, y5, y6, y7, y8⟩, y9, y10⟩ := HP3.out
  go_upto_region 5 with (fail)
  generalize hW2 : (w1.alloc (.map #[] 0)).alloc (.cells #[.pointer none, .slice none 0 0, .map (some w1.heap.size)] 58) = W2 at *
  clear hW2 x0 x1 x2 x3 x4 x5 x6 x7 x8 x9 x10
  have HBW := Lib.hid (below_next HB1.out HB3.out)
  have hw1 : w.heap.size ≤ w1.heap.size + 1 := by have := HB1.out.size; omega
  have C21 := Lib.hid (leaf21 (w1.heap.size + 1) w1.heap.size [] (leafD 3) W2 HW.out (.inl rfl) (by simp))
  unfold leafD ND.agg at C21
  simp only [List.nil_append] at C21
  have HL3 := Lib.hid (show leafT 3 = [94] from rfl)
  rw [HL3.out] at C21
  go_wp2_with fail
  go_loopw [19] (fun i wr => i = .int .i64 0 ∧ W2 = wr) (fun _ _ => 0)
  case atStart => exact ⟨rfl, rfl⟩
  case round =>
    obtain ⟨rfl, rfl⟩ := hrel
    go_wp2_with (first
      | (go_at_call 21; refine C21.out.mono ?_; rintro e w3 ⟨rfl, h1, h2⟩; have H1 := Lib.hid h1; have HB4 := Lib.hid (HBW.out.trans (h2.below.mono hw1)); clear h1 h2)
      | (go_at_call 22; refine (string22 _ _ [94] _ H1.out (by simp)).mono ?_; rintro e w4 ⟨rfl, hb⟩; have HB5 := Lib.hid (HB4.out.trans (hb.mono hw1)); clear hb))
    go_ret2
    exact ⟨rfl, HB5.out⟩
set_option maxRecDepth 100000 in
set_option maxHeartbeats 2000000 in
theorem begun6 (w : World) : Calls Tryd.prog 6 #[] w fun e w' => e = .returned (.bool true) ∧ Below w.heap.size w w' := by
  have C9 := Lib.hid (showOne w)
  have C11 := Lib.hid (fun w' => nodes31 (leafTr 1) (leafD 1) w' (leaf_node 1 w'))
  unfold patV leafD at C9
  unfold leafD ND.agg at C11
  rw [show tooG (leafTr 1) = false by decide, show sizeT (leafTr 1) = 1 by decide] at C11
  simp only [Bool.false_eq_true, if_false] at C9 C11
  go_enter Tryd.func6, Tryd.ntmps6
  go_wp2_with (first
    | (go_at_call 9; refine C9.out.mono ?_; rintro e w1 ⟨rfl, hb⟩; have HB1 := Lib.hid hb; clear hb)
    | (go_at_call 11; refine (C11.out _).mono ?_; rintro e w2 ⟨rfl, hb⟩; have HB2 := Lib.hid (below_next HB1.out hb); clear hb))
  go_ret
  exact ⟨rfl, HB2.out⟩
end Go.Proofs.YtbekjfoefjnidaaDoor
