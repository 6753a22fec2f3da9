/-
  The statement RestSets: whatever it is handed, the call returns true, and each argument reads afterwards as it read before. No condition.
-/
import Derived.Test.YtpdcbddofekbcaaGreatRstC
import Derived.Test.YtpdcbddofekbcaaGreatClosed
import Derived.SizedLaws
namespace Go.Proofs.YtpdcbddofekbcaaGreat.restSetsP
open Go.ChangeShapes Go.WideShapes Go.ChangeAt Go.RowKit Go.Deep
open Go.ChangeMaps (open_string shut_string)
set_option linter.unusedVariables false

theorem own : ownKnob Tryz.prog.godebug = none := by kernel_rfl
theorem laidOut : laidOutB Tryz.prog = true := by kernel_rfl

set_option maxRecDepth 100000 in
theorem lifted (os : Os) (started : os.Started) (H : Type) (enc : TypeId × Value → H) :
    ReturnsInHanded {} Tryz.checked os 3 .any (Rows.restSetsSpec.pre6 enc Tryz.prog Tryz.f3 Rows.restSetsRow.domain false) (Rows.restSetsSpec.post enc Tryz.prog Tryz.f3 false true false false) := by
  refine returnsInHanded_of_change_sized (C := Tryz.checked) own started (by kernel_rfl) Tryz.func3
    (ChangeSpec.witness6 (enc := enc) (C := Tryz.checked) false ⟨#[], #[.slice none 0 0, .slice none 0 0, .int .i64 0], []⟩ 8 (by kernel_rfl) (by kernel_rfl) (by kernel_rfl) (by kernel_rfl)) ?_
  intro W base args ds gs before hval0 hW hcnd hsz0 _
  have hval : ∀ (j : Nat) t v, Tryz.f3.params[j]? = some t → args[j]? = some v → Value.okWide Tryz.prog W .any base t v := hval0
  have hW' := hW
  obtain ⟨p, q, hA0, hV, rfl, hfz, hnd⟩ := hW
  have hA : DataW.TrodAll enc Tryz.prog W 0 (fun _ => true) true Tryz.f3.params.toList args.toList ds p := hA0
  rw [Tryz.params3] at hA hval
  obtain ⟨v0, vs0, d0, ds0, p0, q0, hargs, rfl, rfl, h0, r0⟩ := trodAll_cons hA
  obtain ⟨v1, vs1, d1, ds1, p1, q1, rfl, rfl, rfl, h1, r1⟩ := trodAll_cons r0
  obtain ⟨v2, vs2, d2, ds2, p2, q2, rfl, rfl, rfl, h2, r2⟩ := trodAll_cons r1
  obtain ⟨rfl, rfl, rfl⟩ := trodAll_nil r2
  obtain rfl : args = #[v0, v1, v2] := by cases args; simp_all
  obtain ⟨rfl, rfl⟩ := trodVars_none hV
  obtain ⟨a0, len0, cap0, rfl⟩ := okWide_slice Tryz.underlying22 (hval 0 22 v0 rfl rfl)
  have k0 := h0
  have lt0 : ∀ x ∈ p0, x.block < W.heap.size := by obtain ⟨m, hm⟩ := k0; exact DataW.trod_lt m _ _ _ hm
  obtain ⟨l0, g0, gc0, gm0, gb0⟩ := arg_rngs Tryz.underlying22 Tryz.underlying25 Tryz.underlying3 Tryz.underlying3 (by kernel_rfl) (by kernel_rfl) h0
  obtain ⟨a1, len1, cap1, rfl⟩ := okWide_slice Tryz.underlying22 (hval 1 22 v1 rfl rfl)
  have k1 := h1
  have lt1 : ∀ x ∈ p1, x.block < W.heap.size := by obtain ⟨m, hm⟩ := k1; exact DataW.trod_lt m _ _ _ hm
  obtain ⟨l1, g1, gc1, gm1, gb1⟩ := arg_rngs Tryz.underlying22 Tryz.underlying25 Tryz.underlying3 Tryz.underlying3 (by kernel_rfl) (by kernel_rfl) h1
  obtain ⟨a2, rfl, rfl, rfl, w2⟩ := open_int Tryz.underlying3 (hval 2 3 v2 rfl rfl) h2
  have bd2 : -9223372036854775808 ≤ a2 ∧ a2 ≤ 9223372036854775807 := by simpa [Lit.wf, IntKind.min, IntKind.max, IntKind.signed, IntKind.bits] using w2
  have sz0 : len0 ≤ 8796093021952 := by
    rcases slice_reach Tryz.underlying22 k0 with e | ⟨el, sp, hd, he⟩
    · omega
    · have h := sized_slice hsz0 (j := 0) (t := 22) (e := 25) rfl (congrArg some hd) Tryz.underlying22
      have e2 : Tryz.checked.prog.bytesOf 25 = 16 := by kernel_rfl
      rw [e2] at h
      unfold reachBytes at h
      omega
  have sz1 : len1 ≤ 8796093021952 := by
    rcases slice_reach Tryz.underlying22 k1 with e | ⟨el, sp, hd, he⟩
    · omega
    · have h := sized_slice hsz0 (j := 1) (t := 22) (e := 25) rfl (congrArg some hd) Tryz.underlying22
      have e2 : Tryz.checked.prog.bytesOf 25 = 16 := by kernel_rfl
      rw [e2] at h
      unfold reachBytes at h
      omega
  clear hA0 hval0
  refine (lawRest l0 l1 a2 a0 a1 len0 cap0 len1 cap1 W gc0 gm0 gc1 gm1 sz0 sz1 g0 g1).mono fun e W' ⟨he, bel⟩ => ?_
  subst he
  exact ⟨_, rfl, _, _, _, [], _, [], hW', trodAll_mk1 (shut_bool Tryz.underlying4 _), (trodAll_cons_mk (Below.trod laidOut (by kernel_rfl) (of_decide_eq_true (by kernel_rfl)) k0 bel lt0) (trodAll_cons_mk (Below.trod laidOut (by kernel_rfl) (of_decide_eq_true (by kernel_rfl)) k1 bel lt1) (trodAll_cons_mk (shut_int Tryz.underlying3 w2) trodAll_mk0))), rfl, bel.frame _, fun h => by cases h⟩

set_option maxHeartbeats 8000000 in
theorem closed : joinedFacts Tryz.prog 3 Tryz.f3 Rows.restSetsSpec Rows.restSetsRow = true := by
  unfold joinedFacts
  repeat' (with_reducible refine Shut.band ?_ ?_)
  any_goals (with_reducible first | exact Shut.pLaid | exact Shut.pRowed | exact Shut.pHeard | exact Shut.pEnter)
  any_goals ((with_reducible refine Shut.lifts _ ?_); rfl)
  any_goals ((with_reducible refine Shut.makes ?_); rfl)
  any_goals ((with_reducible refine Shut.keys ?_); rfl)
  all_goals (as_aux_lemma => kernel_rfl)
theorem proved : Rows.RestSetsSaid :=
  OpenClaim.holds_of_wide 3 Tryz.f3 rfl rfl rfl rfl rfl rfl rfl ⟨rfl, rfl, rfl, rfl, rfl⟩ rfl rfl rfl rfl rfl (by kernel_rfl) Tryz.func3 closed
    (of_decide_eq_true (by kernel_rfl)) (by unfold Func.isWrapper; first | (rw [if_pos (by decide +kernel)]; kernel_rfl) | (rw [if_neg (by decide +kernel)]; exact ⟨rfl, rfl⟩))
    (fun os started H enc _ => lifted os started H enc)
end Go.Proofs.YtpdcbddofekbcaaGreat.restSetsP
namespace Go.Proofs.YtpdcbddofekbcaaGreat
theorem restSetsHolds : Rows.RestSetsSaid := restSetsP.proved
end Go.Proofs.YtpdcbddofekbcaaGreat

