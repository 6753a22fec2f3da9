/- GroupsOf, IsPlain of the reference: walked. -/
import Derived.Test.YtbekjfoefjnidaaFsP
import Derived.Test.YtbekjfoefjnidaaSetB
namespace Go.Proofs.Ytbekjfoefjnidaa
open Go.RowKit
set_option linter.unusedVariables false
theorem between_keep (p a b : Int) (w : World) : Calls Try.prog 26 #[.int .i64 p, .int .i64 a, .int .i64 b] w fun e w' => e = .returned (.bool (decide (a ≤ p) && decide (p ≤ b))) ∧ w = w' :=
  (between_any p a b w).mono fun _ _ ⟨h1, h2⟩ => ⟨h1, h2.symm⟩
theorem grpL_take (l : List Tr) (k : Nat) (h : k < l.length) : (grpL (l.take (k + 1)) : Int) = (grpL (l.take k) : Int) + if l[k].kind = 11 then 1 else 0 := by
  rw [take_snoc' l k h, grpL_append]
  unfold grpL
  by_cases h1 : l[k].kind = 11
  · rw [if_pos h1, List.filter_cons_of_pos (by simpa using h1)]; simp
  · rw [if_neg h1, List.filter_cons_of_neg (by simpa using h1)]; simp
/-- a row of nodes, read -/
theorem KidsAt.kind_at {w : World} {B : Nat} {ts : List Tr} {ds : List ND} (h : KidsAt w B ts ds) {k : Nat} (h1 : k < ts.length) (h2 : k < ds.length) : ds[k].kind = ts[k].kind ∧ ds[k].num = ts[k].num := by
  obtain ⟨x, hx⟩ := (h.at k h1 h2).of
  exact ⟨hx.kind, hx.num⟩
set_option maxRecDepth 100000 in
set_option maxHeartbeats 2000000 in
theorem groupsOf23 (t : Tr) (d : ND) (w : World) (hn : NodeAt w w.heap.size t d) (hsz : sizeT t ≤ 1000) : Calls Try.prog 23 #[d.agg] w fun e w' => e = .returned (.int .i64 (grpL (flatT t) : Nat)) ∧ Below w.heap.size w w' := by
  have HB0 := Lib.hid (ND.box_below w d)
  have C := Lib.hid (flat25 t d (d.box w) w.heap.size (ND.box_below w d).size (hn.keepB (ND.box_below w d) (Nat.le_refl _)) hsz)
  have HFL := Lib.hid (flatT_len t)
  clear hn
  obtain ⟨dk, dsA, dsn, dsc, dkA, dkn, dkc, dnum, dleast, dmost, dway, dfold⟩ := d
  unfold ND.agg at *
  unfold ND.box at HB0 C
  simp only at HB0 C ⊢
  go_enter Try.func23, Try.ntmps23
  go_wp2_with fail
  refine C.out.mono ?_
  rintro en w1 ⟨A, n, c, ds, rfl, hown, hks, hb⟩
  have HR := Lib.hid (Rds.of_own hown)
  have HK := Lib.hid hks
  have HL := Lib.hid (show (flatT t).length = n ∧ ds.length = n by have h1 := own_nds_len hown; have h2 := hks.len; omega)
  have hnn : n ≤ 1000 := by have := HL.out.1; have := HFL.out; omega
  have HB := Lib.hid (below_next HB0.out hb)
  clear hown hks hb C
  go_wp2_with fail
  go_loopw [4, 5] (fun v i wr => ∃ k : Nat, k ≤ n ∧ i = .int .i64 k ∧ v = .int .i64 (grpL ((flatT t).take k) : Nat) ∧ w1 = wr) (fun _ i _ => n - (intOf i).toNat)
  case atStart => exact ⟨0, Nat.zero_le _, rfl, rfl, rfl⟩
  case round =>
    obtain ⟨k, hk, rfl, rfl, rfl⟩ := hrel
    have hgk : grpL ((flatT t).take k) ≤ k := Nat.le_trans (List.length_filter_le _ _) (List.length_take_le _ _)
    by_cases hlt : k < n
    · obtain ⟨b1, off1, hl1, hA, hb1, c0, c1, c2, c3, c4, c5, c6, c7⟩ := HR.out.node_at hlt
      have hkl : k < (flatT t).length := by rw [HL.out.1]; exact hlt
      have HG := Lib.hid (grpL_take (flatT t) k hkl)
      have HKD := Lib.hid (HK.out.kind_at hkl hl1)
      obtain ⟨g, hg⟩ : ∃ x, x = grpL ((flatT t).take k) := ⟨_, rfl⟩
      obtain ⟨g2, hg2⟩ : ∃ x, x = grpL ((flatT t).take (k + 1)) := ⟨_, rfl⟩
      rw [← hg] at HG hgk
      rw [← hg2] at HG
      have HG1 := Lib.hid hg
      have HG2 := Lib.hid hg2
      rw [← hg]
      clear hg hg2
      obtain ⟨e, he⟩ : ∃ x, x = ds[k] := ⟨_, rfl⟩
      rw [← he] at c0 c1 c2 c3 c4 c5 c6 c7 HKD
      clear he
      have HAA := Lib.hid hA
      subst hA
      have k2 : (k : Int) < (n : Int) := by omega
      by_cases h11 : e.kind = 11
      · have HE := Lib.hid (show (g2 : Int) = (g : Int) + 1 by have := HG.out; rw [if_pos (by rw [← HKD.out.1]; exact h11)] at this; exact this)
        rw [h11] at c0
        clear h11
        go_wp2_with fail
        go_roundw
        case rel => exact ⟨k + 1, by omega, by go_num, by rw [← HG2.out, HE.out], by first | rfl | trivial⟩
        case measure => simp [intOf]; omega
      · have HE := Lib.hid (show (g2 : Int) = (g : Int) by have := HG.out; rw [if_neg (by rw [← HKD.out.1]; exact h11)] at this; omega)
        have hkb : (e.kind == 11) = false := beq_eq_false_iff_ne.2 h11
        go_wp2_with fail
        go_roundw
        case rel => exact ⟨k + 1, by omega, by go_num, by rw [← HG2.out, HE.out], by first | rfl | trivial⟩
        case measure => simp [intOf]; omega
    · obtain rfl : k = n := by omega
      have HZ := Lib.hid (show (flatT t).take k = flatT t from List.take_of_length_le (by rw [HL.out.1]; exact Nat.le_refl _))
      go_wp2
      go_ret
      rw [HZ.out]
      exact ⟨rfl, HB.out⟩
def plB (k : Int) : Bool := !((decide (3 ≤ k) && decide (k ≤ 8)) || (decide (14 ≤ k) && decide (k ≤ 18)))
theorem plainT_pl (t : Tr) : plainT t = (flatT t).all fun x => plB x.kind := rfl
set_option maxRecDepth 100000 in
set_option maxHeartbeats 2000000 in
theorem isPlain11 (t : Tr) (d : ND) (w : World) (hn : NodeAt w w.heap.size t d) (hsz : sizeT t ≤ 1000) : Calls Try.prog 11 #[d.agg] w fun e w' => e = .returned (.bool (plainT t)) ∧ Below w.heap.size w w' := by
  rw [plainT_pl]
  have HB0 := Lib.hid (ND.box_below w d)
  have C := Lib.hid (flat25 t d (d.box w) w.heap.size (ND.box_below w d).size (hn.keepB (ND.box_below w d) (Nat.le_refl _)) hsz)
  have HFL := Lib.hid (flatT_len t)
  clear hn
  obtain ⟨dk, dsA, dsn, dsc, dkA, dkn, dkc, dnum, dleast, dmost, dway, dfold⟩ := d
  unfold ND.agg at *
  unfold ND.box at HB0 C
  simp only at HB0 C ⊢
  go_enter Try.func11, Try.ntmps11
  go_wp2_with fail
  refine C.out.mono ?_
  rintro en w1 ⟨A, n, c, ds, rfl, hown, hks, hb⟩
  have HR := Lib.hid (Rds.of_own hown)
  have HK := Lib.hid hks
  have HL := Lib.hid (show (flatT t).length = n ∧ ds.length = n by have h1 := own_nds_len hown; have h2 := hks.len; omega)
  have hnn : n ≤ 1000 := by have := HL.out.1; have := HFL.out; omega
  have HB := Lib.hid (below_next HB0.out hb)
  clear hown hks hb C
  go_wp2_with fail
  go_loopw [4] (fun i wr => ∃ k : Nat, k ≤ n ∧ i = .int .i64 k ∧ Hid ((flatT t).all (fun x => plB x.kind) = ((flatT t).drop k).all fun x => plB x.kind) ∧ w1 = wr) (fun i _ => n - (intOf i).toNat)
  case atStart => exact ⟨0, Nat.zero_le _, rfl, Lib.hid rfl, rfl⟩
  case round =>
    obtain ⟨k, hk, rfl, HA, rfl⟩ := hrel
    by_cases hlt : k < n
    · obtain ⟨b1, off1, hl1, hA, hb1, c0, c1, c2, c3, c4, c5, c6, c7⟩ := HR.out.node_at hlt
      have hkl : k < (flatT t).length := by rw [HL.out.1]; exact hlt
      have HKD := Lib.hid (HK.out.kind_at hkl hl1)
      have HD := Lib.hid (show ((flatT t).drop k).all (fun x => plB x.kind) = (plB (flatT t)[k].kind && ((flatT t).drop (k + 1)).all fun x => plB x.kind) by rw [List.drop_eq_getElem_cons hkl, List.all_cons])
      rw [← HKD.out.1] at HD
      obtain ⟨e, he⟩ : ∃ x, x = ds[k] := ⟨_, rfl⟩
      rw [← he] at c0 c1 c2 c3 c4 c5 c6 c7 HD
      clear he HKD
      have HAA := Lib.hid hA
      subst hA
      have k2 : (k : Int) < (n : Int) := by omega
      obtain ⟨x, hx⟩ : ∃ x, x = e.kind := ⟨_, rfl⟩
      rw [← hx] at c0 HD
      clear hx
      have C1 := Lib.hid (fun w => between_keep x 3 8 w)
      have C2 := Lib.hid (fun w => between_keep x 14 18 w)
      have HPL := Lib.hid (show plB x = !((decide (3 ≤ x) && decide (x ≤ 8)) || (decide (14 ≤ x) && decide (x ≤ 18))) from rfl)
      obtain ⟨g1, hg1⟩ : ∃ g, g = (decide (3 ≤ x) && decide (x ≤ 8)) := ⟨_, rfl⟩
      obtain ⟨g2, hg2⟩ : ∃ g, g = (decide (14 ≤ x) && decide (x ≤ 18)) := ⟨_, rfl⟩
      rw [← hg1] at C1 HPL
      rw [← hg2] at C2 HPL
      clear hg1 hg2
      go_wp2_with fail
      refine (C1.out _).mono ?_
      rintro en w2 ⟨rfl, rfl⟩
      cases g1
      · go_wp2_with fail
        refine (C2.out _).mono ?_
        rintro en w2 ⟨rfl, rfl⟩
        cases g2
        · go_wp2_with fail
          go_roundw
          case rel => exact ⟨k + 1, by omega, by go_num, Lib.hid (by rw [HA.out, HD.out, HPL.out]; rfl), by first | rfl | trivial⟩
          case measure => simp [intOf]; omega
        · go_wp2_with fail
          go_ret
          rw [HA.out, HD.out, HPL.out]
          exact ⟨rfl, HB.out⟩
      · go_wp2_with fail
        go_ret
        rw [HA.out, HD.out, HPL.out]
        exact ⟨rfl, HB.out⟩
    · obtain rfl : k = n := by omega
      have HZ := Lib.hid (show (flatT t).drop k = [] from List.drop_of_length_le (by rw [HL.out.1]; exact Nat.le_refl _))
      go_wp2
      go_ret
      rw [HA.out, HZ.out]
      exact ⟨rfl, HB.out⟩
end Go.Proofs.Ytbekjfoefjnidaa
