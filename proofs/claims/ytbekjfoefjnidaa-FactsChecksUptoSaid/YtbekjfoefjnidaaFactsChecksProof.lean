/-
  The statement FactsChecks: whatever it is handed, the call returns true, and each argument reads afterwards as it read before. Where the arguments are together of bulk at most 1048576.
-/
import Derived.Test.YtbekjfoefjnidaaFsAR
import Derived.Test.YtbekjfoefjnidaaFsAS
import Derived.Test.YtbekjfoefjnidaaClosed
import Derived.SizedLaws
import Derived.JoinedCond
import Derived.Deep.CondSized
namespace Go.Proofs.Ytbekjfoefjnidaa.factsChecksP
open Go.ChangeShapes Go.WideShapes Go.ChangeAt Go.RowKit Go.Deep
open Go.ChangeMaps (open_string shut_string)
set_option linter.unusedVariables false

theorem own : ownKnob Try.prog.godebug = none := by kernel_rfl
theorem laidOut : laidOutB Try.prog = true := by kernel_rfl

set_option maxRecDepth 100000 in
theorem lifted (os : Os) (started : os.Started) (H : Type) (enc : TypeId × Value → H) (F : Stop.Interp) :
    ReturnsInHanded {} Try.checked os 5 .any ((Rows.OpenSpec.upto Rows.factsChecksSpec).pre6 enc Try.prog Try.f5 Rows.factsChecksUptoRow.domain false) (((Rows.OpenSpec.upto Rows.factsChecksSpec).at F).post enc Try.prog Try.f5 false true false false) := by
  refine returnsInHanded_of_cond_sized (C := Try.checked) (s := Rows.OpenSpec.upto Rows.factsChecksSpec) (k := Rows.uptoSmall) rfl own started (by kernel_rfl) Try.func5
    (OpenSpec.witness (enc := enc) (C := Try.checked) (s := Rows.OpenSpec.upto Rows.factsChecksSpec) (k := Rows.uptoSmall) rfl false ⟨#[], #[.agg #[.int .i64 0, .slice none 0 0, .slice none 0 0, .int .i64 0, .int .i64 0, .int .i64 0, .int .i64 0, .bool false, .int .i64 0, .slice none 0 0]], []⟩ 8 (by kernel_rfl) (by kernel_rfl) (by kernel_rfl)
      (x := ([.agg [.agg [.lit (.int .i64 0), .nil, .nil, .lit (.int .i64 0), .lit (.int .i64 0), .lit (.int .i64 0), .lit (.int .i64 0), .lit (.bool false)], .lit (.int .i64 0), .nil]], [], [])) (by kernel_rfl) rfl (by kernel_rfl)) ?_
  intro W base args ds gs before hval0 hW hcnd hk hsz0 _
  have hval : ∀ (j : Nat) t v, Try.f5.params[j]? = some t → args[j]? = some v → Value.okWide Try.prog W .any base t v := hval0
  have hW' := hW
  obtain ⟨p, q, hA0, hV, rfl, hfz, hnd⟩ := hW
  have hA : DataW.TrodAll enc Try.prog W 0 (fun _ => true) true Try.f5.params.toList args.toList ds p := hA0
  rw [Try.params5] at hA hval
  obtain ⟨v0, vs0, d0, ds0, p0, q0, hargs, rfl, rfl, h0, r0⟩ := trodAll_cons hA
  obtain ⟨rfl, rfl, rfl⟩ := trodAll_nil r0
  obtain rfl : args = #[v0] := by cases args; simp_all
  obtain ⟨rfl, rfl⟩ := trodVars_none hV
  obtain ⟨cs0, rfl, -⟩ := okWide_struct Try.underlying38 (hval 0 38 v0 rfl rfl)
  have k0 := h0
  have lt0 : ∀ x ∈ p0, x.block < W.heap.size := by obtain ⟨m, hm⟩ := k0; exact DataW.trod_lt m _ _ _ hm
  obtain ⟨nd0, tr0, gr0, nA0, nn0, nc0, ns0, e0, g0, s0, nl0, nb0, nm0, bk0, tx0⟩ : ∃ nd tr gr nA nn nc ns, cs0.toList = patVals nd gr nA nn nc ∧ NodeAt W W.heap.size tr nd ∧ ((∀ n ∈ d0.weights Try.prog 38, n ≤ reachBytes) → ∀ y ∈ flatT tr, y.kids.length ≤ 2199023255552) ∧ NamesAt W W.heap.size nA nn ns ∧ nn ≤ nc ∧ nc ≤ maxLen ∧ nn ≤ Rows.uptoBulk d0 ∧ ∀ u ∈ ns, u.1.size ≤ Rows.uptoBulk d0 := by
    obtain ⟨m, hm⟩ := k0
    exact arg_pat hm
  obtain rfl : cs0 = (patVals nd0 gr0 nA0 nn0 nc0).toArray := by rw [← e0]
  have sm0 : Small tr0 := s0 fun n hn => by simpa using List.all_eq_true.1 hsz0 n (DataW.weights_mem_each (j := 0) (t := 38) (d := d0) rfl rfl n hn)
  have bb0 : Rows.uptoBulk d0 ≤ 1048576 := Nat.le_trans (bulks.part_le (by simp)) (of_decide_eq_true hk)
  clear hA0 hval0
  refine (lawFactsChecks tr0 nd0 gr0 nA0 nn0 nc0 ns0 W g0 sm0 nl0 nb0 nm0 (by unfold maxLen; omega) (fun x hx => by have := tx0 x hx; omega)).mono fun e W' ⟨he, bel⟩ => ?_
  subst he
  exact ⟨_, rfl, _, _, _, [], _, [], hW', trodAll_mk1 (shut_bool Try.underlying4 _), (trodAll_cons_mk (Below.trod laidOut (by kernel_rfl) (of_decide_eq_true (by kernel_rfl)) k0 bel lt0) trodAll_mk0), rfl, bel.frame _, fun h => by cases h⟩

set_option maxHeartbeats 8000000 in
theorem closed : joinedFacts Try.prog 5 Try.f5 (Rows.OpenSpec.upto Rows.factsChecksSpec).bare Rows.factsChecksUptoRow = true := by
  unfold joinedFacts
  repeat' (with_reducible refine Shut.band ?_ ?_)
  any_goals (with_reducible first | exact Shut.pLaid | exact Shut.pRowed | exact Shut.pHeard | exact Shut.pEnter)
  any_goals ((with_reducible refine Shut.lifts _ ?_); rfl)
  any_goals ((with_reducible refine Shut.makes ?_); rfl)
  any_goals ((with_reducible refine Shut.keys ?_); rfl)
  all_goals (as_aux_lemma => kernel_rfl)
theorem proved : Rows.FactsChecksUptoSaid :=
  OpenClaim.holds_of_cond 5 Try.f5 rfl rfl rfl rfl rfl rfl rfl ⟨rfl, rfl, rfl, rfl, rfl⟩ rfl rfl rfl rfl rfl (by kernel_rfl) Try.func5 closed
    (of_decide_eq_true (by kernel_rfl)) (by unfold Func.isWrapper; first | (rw [if_pos (by decide +kernel)]; kernel_rfl) | (rw [if_neg (by decide +kernel)]; exact ⟨rfl, rfl⟩))
    (fun os started H enc _ F => lifted os started H enc F)
end Go.Proofs.Ytbekjfoefjnidaa.factsChecksP
namespace Go.Proofs.Ytbekjfoefjnidaa
theorem factsChecksHolds : Rows.FactsChecksUptoSaid := factsChecksP.proved
end Go.Proofs.Ytbekjfoefjnidaa

