/- the two closures; alone: walked. -/
import Derived.Test.YtbekjfoefjnidaaFsH
import Derived.Deep.RegionHeld3
namespace Go.Proofs.Ytbekjfoefjnidaa
open Go.RowKit
set_option linter.unusedVariables false
def okKind (k : Int) : Bool := k == 1 || k == 2 || k == 9 || k == 10 || k == 11 || k == 12 || k == 13
set_option maxRecDepth 100000 in
set_option maxHeartbeats 2000000 in
theorem clo20 (d : ND) (w : World) : Calls Try.prog 20 #[d.agg] w fun e w' => e = .returned (.bool (okKind d.kind)) ∧ Below w.heap.size w w' := by
  have HB0 := Lib.hid (ND.box_below w d)
  obtain ⟨dk, dsA, dsn, dsc, dkA, dkn, dkc, dnum, dleast, dmost, dway, dfold⟩ := d
  unfold ND.agg
  unfold ND.box at HB0
  simp only at HB0 ⊢
  go_enter Try.func20, Try.ntmps20
  go_wp2_with fail
  all_goals go_ret
  all_goals refine ⟨congrArg (fun b => Ending.returned (Value.bool b)) ?_, HB0.out⟩
  all_goals (clear HB0; simp_all [okKind])
/-- the pattern, in its block: its groups are counted -/
structure GrAt (pb B : Nat) (d : ND) (w : World) (n : Int) : Prop where
  lo : B ≤ pb
  pat : PatN w pb d n none 0 0
  f8 : w.frozen? ⟨pb, 8, none⟩ = false
theorem GrAt.next {pb B : Nat} {d : ND} {w w' : World} {n : Int} (h : GrAt pb B d w n) (hb : Below w.heap.size w w') : GrAt pb B d w' n :=
  ⟨h.lo, h.pat.below hb h.pat.1.1, by rw [hb.frozen (p := ⟨pb, 8, none⟩) h.pat.1.1]; exact h.f8⟩
theorem GrAt.count {pb B : Nat} {d : ND} {w : World} {n : Int} (h : GrAt pb B d w n) (m : Int) : GrAt pb B d (w.setCell ⟨pb, 8, none⟩ (.int .i64 m)) m := by
  obtain ⟨h1, ⟨⟨a0, a1, a2, a3, a4, a5, a6, a7, a8⟩, a9, a10⟩, h3⟩ := h
  have ho : ∀ {j : Nat} {v : Value}, j ≠ 8 → w.cell? ⟨pb, j, none⟩ = some v → (w.setCell ⟨pb, 8, none⟩ (.int .i64 m)).cell? ⟨pb, j, none⟩ = some v := fun hj h => (World.cell?_setCell_other _ _ _ _ (by simp)).trans h
  exact ⟨h1, ⟨⟨by simpa using a0, ho (by decide) a1, ho (by decide) a2, ho (by decide) a3, ho (by decide) a4, ho (by decide) a5, ho (by decide) a6, ho (by decide) a7, ho (by decide) a8⟩, World.cell?_setCell_same _ _ _ a9, ho (by decide) a10⟩, by rw [World.frozen?_setCell]; exact h3⟩
set_option maxRecDepth 100000 in
set_option maxHeartbeats 2000000 in
theorem clo32 (pb B : Nat) (dp : ND) (t : Tr) (d : ND) (w : World) (n : Int) (hB : B ≤ w.heap.size) (hn : NodeAt w B t d) (hj : GrAt pb B dp w n) (n0 : 0 ≤ n) (n1 : n ≤ 100000) :
    Calls Try.prog 32 (#[d.agg] ++ #[.pointer (some ⟨pb, 0, none⟩)]) w fun e w' => e = .returned (.bool true) ∧ Below B w w' ∧ Oth (some pb) w w' ∧ GrAt pb B dp w' (n + if (t.kind == 11) = true then 1 else 0) := by
  obtain ⟨ds, hn⟩ := hn.of
  have EK := Lib.hid hn.kind
  have HB0 := Lib.hid (ND.box_below w d)
  have HJ := Lib.hid (hj.next (ND.box_below w d))
  have HLO := Lib.hid hj.lo
  have HJ1 := Lib.hid ((hj.count (n + 1)).next (ND.box_below _ d))
  have HB1 := Lib.hid (show Below B w (d.box (w.setCell ⟨pb, 8, none⟩ (.int .i64 (n + 1)))) from ((Below.refl B w).setCell (p := ⟨pb, 8, none⟩) hj.lo _).trans ((ND.box_below (w.setCell ⟨pb, 8, none⟩ (.int .i64 (n + 1))) d).mono (by simpa using hB)))
  have hpl := hj.pat.1.1
  clear hn hj
  obtain ⟨dk, dsA, dsn, dsc, dkA, dkn, dkc, dnum, dleast, dmost, dway, dfold⟩ := d
  unfold ND.agg
  unfold ND.box at HB0 HJ HJ1 HB1
  simp only at HB0 EK HJ HJ1 HB1 ⊢
  show Calls Try.prog 32 #[_, .pointer (some ⟨pb, 0, none⟩)] w _
  by_cases hk : dk = 11
  · subst hk
    rw [← EK.out]
    simp only [beq_self_eq_true, if_true]
    have a9 := HJ.out.pat.2.1
    have f8 := HJ.out.f8
    go_enter Try.func32, Try.ntmps32
    go_wp2_with fail
    go_ret
    refine ⟨rfl, HB1.out, ?_, HJ1.out⟩
    intro b hb hne
    rw [Below.heap_alloc _ _ b (by simpa using hb), Below.heap_setCell _ ⟨pb, 8, none⟩ _ b (fun e => hne (by rw [e]))]
  · rw [← EK.out, if_neg (by simpa using hk), Int.add_zero]
    have hkb : (dk == 11) = false := beq_eq_false_iff_ne.2 hk
    go_enter Try.func32, Try.ntmps32
    go_wp2_with fail
    go_ret
    exact ⟨rfl, HB0.out.mono hB, fun b hb _ => HB0.out.block b hb, HJ.out⟩
end Go.Proofs.Ytbekjfoefjnidaa
