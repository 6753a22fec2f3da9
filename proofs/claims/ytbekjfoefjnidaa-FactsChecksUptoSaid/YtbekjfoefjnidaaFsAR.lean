/- The law of FactsChecks: walked. -/
import Derived.Test.YtbekjfoefjnidaaFsAQ
import Derived.Test.YtbekjfoefjnidaaFsAB
namespace Go.Proofs.Ytbekjfoefjnidaa
open Go.RowKit
set_option linter.unusedVariables false
theorem PatN.next {w w' : World} {b : Nat} {d : ND} {gr : Int} {nA : Option Addr} {nn nc : Nat} (h : PatN w b d gr nA nn nc) (hb : Below w.heap.size w w') : PatN w' b d gr nA nn nc := h.below hb h.1.1
set_option maxRecDepth 100000 in
set_option maxHeartbeats 2000000 in
theorem lawFactsChecks (t : Tr) (d : ND) (gr : Int) (nA : Option Addr) (nn nc : Nat) (ns : List (ByteArray × Int)) (w : World) (hn : NodeAt w w.heap.size t d) (hsm : Small t) (hl : NamesAt w w.heap.size nA nn ns) (hnc : nn ≤ nc) (hcm : nc ≤ maxLen) (hnm : nn < maxLen) (htx : ∀ x ∈ ns, x.1.size ≤ 100000000) :
    Calls Try.prog 5 #[patV d gr nA nn nc] w fun e w' => e = .returned (.bool true) ∧ Below w.heap.size w w' := by
  have HP := Lib.hid (PatN.new w d gr nA nn nc)
  have HB := Lib.hid (patB_below w d gr nA nn nc)
  have C12 := Lib.hid (fun (w1 : World) (h : Below w.heap.size w w1) => check12 t d gr nA nn nc ns w1 (NodeAt.map (fun r => (r.below h (Nat.le_refl _)).more h.size) _ _ hn) ((hl.below h (Nat.le_refl _)).more h.size) hnc hcm hnm)
  have C13 := Lib.hid (fun (w1 : World) (h : Below w.heap.size w w1) => checkBehind13 t d gr nA nn nc ns w1 (NodeAt.map (fun r => (r.below h (Nat.le_refl _)).more h.size) _ _ hn) hsm ((hl.below h (Nat.le_refl _)).more h.size) hnc hcm hnm htx)
  clear hn hl hsm htx
  obtain ⟨er, her⟩ : ∃ x, x = behE t gr ns := ⟨_, rfl⟩
  rw [← her] at C12 C13
  clear her
  obtain ⟨dk, dsA, dsn, dsc, dkA, dkn, dkc, dnum, dleast, dmost, dway, dfold⟩ := d
  unfold patV at C12 C13 ⊢
  unfold patB at HP HB
  simp only at HP HB C12 C13 ⊢
  obtain ⟨⟨x0, x1, x2, x3, x4, x5, x6, x7, x8⟩, x9, x10⟩ := HP.out
  go_enter Try.func5, Try.ntmps5
  go_upto_region 1 with (fail)
  go_region_held3 (fun w' => w'.cell? ⟨w.heap.size, 0, none⟩ = some (.int .i64 dk) ∧ w'.cell? ⟨w.heap.size, 1, none⟩ = some (.slice dsA dsn dsc) ∧ w'.cell? ⟨w.heap.size, 2, none⟩ = some (.slice dkA dkn dkc) ∧ w'.cell? ⟨w.heap.size, 3, none⟩ = some (.int .i64 dnum) ∧ w'.cell? ⟨w.heap.size, 4, none⟩ = some (.int .i64 dleast) ∧ w'.cell? ⟨w.heap.size, 5, none⟩ = some (.int .i64 dmost) ∧ w'.cell? ⟨w.heap.size, 6, none⟩ = some (.int .i64 dway) ∧ w'.cell? ⟨w.heap.size, 7, none⟩ = some (.bool dfold) ∧ w'.cell? ⟨w.heap.size, 8, none⟩ = some (.int .i64 gr) ∧ w'.cell? ⟨w.heap.size, 9, none⟩ = some (.slice nA nn nc))
    (first | exact ⟨x1, x2, x3, x4, x5, x6, x7, x8, x9, x10⟩ | exact ⟨y1, y2, y3, y4, y5, y6, y7, y8, y9, y10⟩ | exact ⟨z1, z2, z3, z4, z5, z6, z7, z8, z9, z10⟩ | exact ⟨v1, v2, v3, v4, v5, v6, v7, v8, v9, v10⟩ | (trace_state; fail))
    (first
      | (go_at_call 7; refine (begun7 _).mono ?_; rintro en w1 ⟨rfl, hb⟩; have HB1 := Lib.hid (below_next HB.out.drew hb); have HP1 := Lib.hid (HP.out.next ((Below.refl _ _).drew.trans hb)); obtain ⟨⟨y0, y1, y2, y3, y4, y5, y6, y7, y8⟩, y9, y10⟩ := HP1.out; clear hb)
      | (go_at_call 12; refine (C12.out _ HB1.out).mono ?_; rintro en w2 ⟨rfl, hb⟩; have HB2 := Lib.hid (below_next HB1.out hb); have HP2 := Lib.hid (HP1.out.next hb); obtain ⟨⟨z0, z1, z2, z3, z4, z5, z6, z7, z8⟩, z9, z10⟩ := HP2.out; clear hb)
      | (go_at_call 13; refine (C13.out _ HB2.out).mono ?_; rintro en w3 ⟨rfl, hb⟩; have HB3 := Lib.hid (below_next HB2.out hb); have HP3 := Lib.hid (HP2.out.next hb); obtain ⟨⟨v0, v1, v2, v3, v4, v5, v6, v7, v8⟩, v9, v10⟩ := HP3.out; clear hb))
  all_goals
    (try go_wp2_with fail)
    go_ret
    exact ⟨ret_bool (by simp), HB3.out⟩
end Go.Proofs.Ytbekjfoefjnidaa
