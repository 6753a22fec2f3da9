/- wide, Width: walked. -/
import Derived.Test.YtbekjfoefjnidaaFsO
namespace Go.Proofs.Ytbekjfoefjnidaa
open Go.RowKit
set_option linter.unusedVariables false
theorem wide33 (t : Tr) : WideLaw t := by
  refine tree_ind (P := WideLaw) (fun t ih => ?_) t
  by_cases h2 : t.kind = 2
  · exact wide_set t (by rw [widT_eq]; unfold widK; rw [if_pos h2]) h2
  by_cases h18 : t.kind = 18
  · exact wide_again t (by rw [widT_eq]; unfold widK; rw [if_neg h2, if_pos h18]) h18
  by_cases h11 : t.kind = 11 ∨ t.kind = 13
  · exact wide_group t ih h11
  by_cases h12 : t.kind = 12
  · exact wide_rep t ih h12
  by_cases h9 : t.kind = 9
  · exact wide_row t ih h9
  by_cases h10 : t.kind = 10
  · exact wide_either t ih h10
  exact wide_none t (by rw [widT_eq]; unfold widK; rw [if_neg h2, if_neg h18, if_neg h11, if_neg h12, if_neg h9, if_neg h10]) ⟨h2, h18, by omega, by omega, h12, h9, h10⟩
set_option maxRecDepth 100000 in
set_option maxHeartbeats 1000000 in
theorem width18 (t : Tr) (d : ND) (w : World) (hn : NodeAt w w.heap.size t d) (hr : ∀ x ∈ flatT t, rightE x = 0) :
    Calls Try.prog 18 #[d.agg] w fun e w' => e = .returned (.tuple #[.int .i64 (widT t).1, .int .i64 (widT t).2]) ∧ Below w.heap.size w w' := by
  have HB0 := Lib.hid (ND.box_below w d)
  have C := Lib.hid (wide33 t d (d.box w) (hn.next (ND.box_below w d)) hr)
  clear hn hr
  obtain ⟨dk, dsA, dsn, dsc, dkA, dkn, dkc, dnum, dleast, dmost, dway, dfold⟩ := d
  unfold ND.agg at *
  unfold ND.box at HB0 C
  simp only at HB0 C ⊢
  obtain ⟨r, hr⟩ : ∃ r, r = widT t := ⟨_, rfl⟩
  rw [← hr] at C ⊢
  clear hr
  obtain ⟨r1, r2⟩ := r
  unfold wV at C
  simp only at C ⊢
  go_enter Try.func18, Try.ntmps18
  go_wp2_with fail
  refine C.out.mono ?_
  rintro en w1 ⟨rfl, hb⟩
  have HB := Lib.hid (below_next HB0.out hb)
  clear hb
  go_wp2_with fail
  go_quiet (fail)
  go_wp2_with fail
  go_ret2
  exact ⟨rfl, below_drewN (HB.out.alloc HB.out.size _) _⟩
end Go.Proofs.Ytbekjfoefjnidaa
