/- SetSpreads, SetCounts, SetTurns, walked. -/
import Derived.Test.YtehlijnhhbdbhaaSetOps
namespace Go.Proofs.Ytehlijnhhbdbhaa
open Go.RowKit
set_option linter.unusedVariables false
theorem spread_iff {a b c u p q : List (Int × Int)} (hu : IsSet u (fun x => mem b x ∨ mem c x)) (hp : IsSet p (fun x => mem a x ∧ mem b x)) (hq : IsSet q (fun x => mem a x ∧ mem c x)) (x : Int) : (mem a x ∧ mem u x) ↔ (mem p x ∨ mem q x) := by
  rw [hu.2 x, hp.2 x, hq.2 x]
  constructor
  · rintro ⟨h, k | k⟩
    · exact .inl ⟨h, k⟩
    · exact .inr ⟨h, k⟩
  · rintro (⟨h, k⟩ | ⟨h, k⟩)
    · exact ⟨h, .inl k⟩
    · exact ⟨h, .inr k⟩
theorem chk2_zero {a b : List (Int × Int)} (h : chk2 a b = 0) : chk a = 0 ∧ chk b = 0 := by
  unfold chk2 at h
  by_cases k : chk a = 0
  · rw [if_pos k] at h; exact ⟨k, h⟩
  · rw [if_neg k] at h; exact absurd h k
theorem chk2_mk {a b : List (Int × Int)} (h : chk a = 0) (k : chk b = 0) : chk2 a b = 0 := by unfold chk2; rw [if_pos h]; exact k
theorem spread_end {a b c u v p q y : List (Int × Int)} {x1 x2 x3 x4 x5 : Int} (F1 : SFact (fun x => mem b x ∨ mem c x) (chk2 b c) u x1) (F2 : SFact (fun x => mem a x ∧ mem u x) (chk2 a u) v x2)
    (F3 : SFact (fun x => mem a x ∧ mem b x) (chk2 a b) p x3) (F4 : SFact (fun x => mem a x ∧ mem c x) (chk2 a c) q x4) (F5 : SFact (fun x => mem p x ∨ mem q x) (chk2 p q) y x5)
    (h1 : x1 = 0) (h2 : x2 = 0) (h3 : x3 = 0) (h4 : x4 = 0) : x5 = 0 ∧ sameS v y = true := by
  have s1 := F1.good h1
  have s2 := F2.good h2
  have s3 := F3.good h3
  have s4 := F4.good h4
  have hv : IsSet v (fun x => mem p x ∨ mem q x) := ⟨s2.1.1, fun x => (s2.1.2 x).trans (spread_iff s1.1 s3.1 s4.1 x)⟩
  obtain ⟨e1, e2⟩ := F5.of_set (chk2_mk s3.2.1 s4.2.1) hv (F2.ok h2).2
  exact ⟨e1, by subst e2; simp [sameS]⟩
theorem spread_many {a b c u v p q : List (Int × Int)} {x1 x2 x3 x4 : Int} (F1 : SFact (fun x => mem b x ∨ mem c x) (chk2 b c) u x1) (F2 : SFact (fun x => mem a x ∧ mem u x) (chk2 a u) v x2)
    (F3 : SFact (fun x => mem a x ∧ mem b x) (chk2 a b) p x3) (F4 : SFact (fun x => mem a x ∧ mem c x) (chk2 a c) q x4) (h1 : x1 = 0) (h2 : x2 = 0) : (x3 ≠ 0 → x3 = 2) ∧ (x4 ≠ 0 → x4 = 2) := by
  have s1 := F1.good h1
  have s2 := F2.good h2
  have k1 := chk2_zero s1.2.2
  have k2 := chk2_zero s2.2.2
  exact ⟨F3.many (chk2_mk k2.1 k1.1), F4.many (chk2_mk k2.1 k1.2)⟩
set_option maxRecDepth 100000 in
set_option maxHeartbeats 2000000 in
theorem lawSpreads (a : List (Int × Int)) (b : List (Int × Int)) (c : List (Int × Int)) (Aa : Option Addr) (na ca : Nat) (Ab : Option Addr) (nb cb : Nat) (Ac : Option Addr) (nc cc : Nat) (w : World) (ha : na ≤ ca) (ka : ca ≤ maxLen) (ra : Rds w w.heap.size 2 Aa na (rngs a)) (hb : nb ≤ cb) (kb : cb ≤ maxLen) (rb : Rds w w.heap.size 2 Ab nb (rngs b)) (hc : nc ≤ cc) (kc : cc ≤ maxLen) (rc : Rds w w.heap.size 2 Ac nc (rngs c)) :
    Calls Try.prog 9 #[.slice Aa na ca, .slice Ab nb cb, .slice Ac nc cc] w fun e w' => e = .returned (.bool true) ∧ Below w.heap.size w w' := by
  have Ra := Lib.hid ra
  have Rb := Lib.hid rb
  have Rc := Lib.hid rc
  have La := Lib.hid ra.rngs_len
  have Lb := Lib.hid rb.rngs_len
  have Lc := Lib.hid rc.rngs_len
  clear ra rb rc
  go_enter Try.func9, Try.ntmps9
  go_wp2_with fail
  refine (setBegun29 _).mono ?_
  rintro e w1 ⟨rfl, hb⟩
  have Ra := Lib.hid (Ra.out.next hb)
  have Rb := Lib.hid (Rb.out.next hb)
  have Rc := Lib.hid (Rc.out.next hb)
  have b1 := hb
  clear hb
  go_wp2_with fail
  refine (unionS b c Ab Ac nb cb nc cc _ hb kb hc kc Rb.out Rc.out).mono ?_
  rintro e w2 ⟨u, Au, nu, cu, x1, rfl, Fu, hu, ku, Lu, Ru_, hb⟩
  have Ra := Lib.hid (Ra.out.next hb)
  have Rb := Lib.hid (Rb.out.next hb)
  have Rc := Lib.hid (Rc.out.next hb)
  have b2 := below_next b1 hb
  clear b1 hb
  have Ru := Ru_
  go_wp2_with fail
  refine (meetS a u Aa Au na ca nu cu _ ha ka hu ku Ra.out Ru.out).mono ?_
  rintro e w3 ⟨v, Av, nv, cv, x2, rfl, Fv, hv, kv, Lv, Rv_, hb⟩
  have Ra := Lib.hid (Ra.out.next hb)
  have Rb := Lib.hid (Rb.out.next hb)
  have Rc := Lib.hid (Rc.out.next hb)
  have Ru := Lib.hid (Ru.out.next hb)
  have b3 := below_next b2 hb
  clear b2 hb
  have Rv := Rv_
  by_cases h1 : x1 = 0
  · subst h1
    by_cases h2 : x2 = 0
    · subst h2
      go_wp2_with fail
      refine (meetS a b Aa Ab na ca nb cb _ ha ka hb kb Ra.out Rb.out).mono ?_
      rintro e w4 ⟨p, Ap, np, cp, x3, rfl, Fp, hp, kp, Lp, Rp_, hb⟩
      have Ra := Lib.hid (Ra.out.next hb)
      have Rb := Lib.hid (Rb.out.next hb)
      have Rc := Lib.hid (Rc.out.next hb)
      have Ru := Lib.hid (Ru.out.next hb)
      have Rv := Lib.hid (Rv.out.next hb)
      have b4 := below_next b3 hb
      clear b3 hb
      have Rp := Rp_
      go_wp2_with fail
      refine (meetS a c Aa Ac na ca nc cc _ ha ka hc kc Ra.out Rc.out).mono ?_
      rintro e w5 ⟨q, Aq, nq, cq, x4, rfl, Fq, hq, kq, Lq, Rq_, hb⟩
      have Ra := Lib.hid (Ra.out.next hb)
      have Rb := Lib.hid (Rb.out.next hb)
      have Rc := Lib.hid (Rc.out.next hb)
      have Ru := Lib.hid (Ru.out.next hb)
      have Rv := Lib.hid (Rv.out.next hb)
      have Rp := Lib.hid (Rp.out.next hb)
      have b5 := below_next b4 hb
      clear b4 hb
      have Rq := Rq_
      have HM := Lib.hid (spread_many Fu.out Fv.out Fp.out Fq.out rfl rfl)
      by_cases h3 : x3 = 0
      · subst h3
        by_cases h4 : x4 = 0
        · subst h4
          go_wp2_with fail
          refine (unionS p q Ap Aq np cp nq cq _ hp kp hq kq Rp.out Rq.out).mono ?_
          rintro e w6 ⟨y, Ay, ny, cy, x5, rfl, Fy, hy, ky, Ly, Ry_, hb⟩
          have Ra := Lib.hid (Ra.out.next hb)
          have Rb := Lib.hid (Rb.out.next hb)
          have Rc := Lib.hid (Rc.out.next hb)
          have Ru := Lib.hid (Ru.out.next hb)
          have Rv := Lib.hid (Rv.out.next hb)
          have Rp := Lib.hid (Rp.out.next hb)
          have Rq := Lib.hid (Rq.out.next hb)
          have b6 := below_next b5 hb
          clear b5 hb
          have Ry := Ry_
          obtain ⟨h5, hs⟩ := spread_end Fu.out Fv.out Fp.out Fq.out Fy.out rfl rfl rfl rfl
          subst h5
          have HS := Lib.hid hs
          clear hs
          go_wp2_with fail
          refine (sameS_ v y true HS.out Av Ay nv ny cv cy _ (by omega) (by omega) Rv.out Ry.out).mono ?_
          rintro e w7 ⟨rfl, hb⟩
          have Ra := Lib.hid (Ra.out.next hb)
          have Rb := Lib.hid (Rb.out.next hb)
          have Rc := Lib.hid (Rc.out.next hb)
          have Ru := Lib.hid (Ru.out.next hb)
          have Rv := Lib.hid (Rv.out.next hb)
          have Rp := Lib.hid (Rp.out.next hb)
          have Rq := Lib.hid (Rq.out.next hb)
          have Ry := Lib.hid (Ry.out.next hb)
          have b7 := below_next b6 hb
          clear b6 hb
          go_wp2
          go_ret
          exact ⟨by simp, b7⟩
        · have h := HM.out.2 h4
          subst h
          clear h4
          go_wp2
          go_ret
          exact ⟨by simp, b5⟩
      · have h := HM.out.1 h3
        subst h
        clear h3
        go_wp2
        go_ret
        exact ⟨by simp, b5⟩
    · have hx := bn h2
      clear h2
      go_wp2
      go_ret
      exact ⟨by simp, b3⟩
  · have hx := bn h1
    clear h1
    go_wp2
    go_ret
    exact ⟨by simp, b3⟩
theorem counts_end {a b u m : List (Int × Int)} {x1 x2 : Int} (F1 : SFact (fun x => mem a x ∨ mem b x) (chk2 a b) u x1) (F2 : SFact (fun x => mem a x ∧ mem b x) (chk2 a b) m x2) (h1 : x1 = 0) (h2 : x2 = 0) :
    (chk a = 0 ∧ chk b = 0 ∧ chk u = 0 ∧ chk m = 0) ∧ cntA a + cntA b = cntA u + cntA m ∧ (0 ≤ cntA a ∧ cntA a ≤ 1114112) ∧ (0 ≤ cntA b ∧ cntA b ≤ 1114112) ∧ (0 ≤ cntA u ∧ cntA u ≤ 1114112) ∧ (0 ≤ cntA m ∧ cntA m ≤ 1114112) := by
  have s1 := F1.good h1
  have s2 := F2.good h2
  have k := chk2_zero s1.2.2
  have cB : ∀ {z : List (Int × Int)}, chk z = 0 → cntA z = cntB (memB z) 1114112 := fun hz => by unfold cntA; rw [if_pos hz]; exact countL_cnt ((chk_ok _).1 hz).2
  have e := cntB_or (f := memB a) (g := memB b) 1114112
  have eu : cntB (memB u) 1114112 = cntB (fun p => memB a p || memB b p) 1114112 := cntB_congr _ fun p _ _ => by
    rw [Bool.eq_iff_iff, Bool.or_eq_true, memB_iff, memB_iff, memB_iff]; exact s1.1.2 p
  have em : cntB (memB m) 1114112 = cntB (fun p => memB a p && memB b p) 1114112 := cntB_congr _ fun p _ _ => by
    rw [Bool.eq_iff_iff, Bool.and_eq_true, memB_iff, memB_iff, memB_iff]; exact s2.1.2 p
  have bd : ∀ (f : Int → Bool) (k : Nat), cntB f k ≤ k := fun f k => by
    induction k with
    | zero => exact Nat.le_refl _
    | succ k ih => have := Bool.toNat_le (f k); simp only [cntB]; omega
  have b1 := bd (memB a) 1114112
  have b2 := bd (memB b) 1114112
  have b3 := bd (memB u) 1114112
  have b4 := bd (memB m) 1114112
  refine ⟨⟨k.1, k.2, s1.2.1, s2.2.1⟩, ?_⟩
  rw [cB k.1, cB k.2, cB s1.2.1, cB s2.2.1]
  omega
set_option maxRecDepth 100000 in
set_option maxHeartbeats 2000000 in
theorem lawCounts (a : List (Int × Int)) (b : List (Int × Int)) (Aa : Option Addr) (na ca : Nat) (Ab : Option Addr) (nb cb : Nat) (w : World) (ha : na ≤ ca) (ka : ca ≤ maxLen) (ra : Rds w w.heap.size 2 Aa na (rngs a)) (hb : nb ≤ cb) (kb : cb ≤ maxLen) (rb : Rds w w.heap.size 2 Ab nb (rngs b)) :
    Calls Try.prog 12 #[.slice Aa na ca, .slice Ab nb cb] w fun e w' => e = .returned (.bool true) ∧ Below w.heap.size w w' := by
  have Ra := Lib.hid ra
  have Rb := Lib.hid rb
  have La := Lib.hid ra.rngs_len
  have Lb := Lib.hid rb.rngs_len
  clear ra rb
  go_enter Try.func12, Try.ntmps12
  go_wp2_with fail
  refine (setBegun29 _).mono ?_
  rintro e w1 ⟨rfl, hb⟩
  have Ra := Lib.hid (Ra.out.next hb)
  have Rb := Lib.hid (Rb.out.next hb)
  have b1 := hb
  clear hb
  go_wp2_with fail
  refine (unionS a b Aa Ab na ca nb cb _ ha ka hb kb Ra.out Rb.out).mono ?_
  rintro e w2 ⟨u, Au, nu, cu, x1, rfl, Fu, hu, ku, Lu, Ru_, hb⟩
  have Ra := Lib.hid (Ra.out.next hb)
  have Rb := Lib.hid (Rb.out.next hb)
  have b2 := below_next b1 hb
  clear b1 hb
  have Ru := Ru_
  go_wp2_with fail
  refine (meetS a b Aa Ab na ca nb cb _ ha ka hb kb Ra.out Rb.out).mono ?_
  rintro e w3 ⟨m, Am, nm, cm, x2, rfl, Fm, hm, km, Lm, Rm_, hb⟩
  have Ra := Lib.hid (Ra.out.next hb)
  have Rb := Lib.hid (Rb.out.next hb)
  have Ru := Lib.hid (Ru.out.next hb)
  have b3 := below_next b2 hb
  clear b2 hb
  have Rm := Rm_
  by_cases h1 : x1 = 0
  · subst h1
    by_cases h2 : x2 = 0
    · subst h2
      obtain ⟨⟨z1, z2, z3, z4⟩, hsum, ba, bb, bu, bm⟩ := counts_end Fu.out Fm.out rfl rfl
      have Ca := Lib.hid (fun w' r => count43 a Aa na ca w' ha ka r)
      rw [z1] at Ca
      have Cb := Lib.hid (fun w' r => count43 b Ab nb cb w' hb kb r)
      rw [z2] at Cb
      have Cu := Lib.hid (fun w' r => count43 u Au nu cu w' hu ku r)
      rw [z3] at Cu
      have Cm := Lib.hid (fun w' r => count43 m Am nm cm w' hm km r)
      rw [z4] at Cm
      obtain ⟨ta, ea⟩ : ∃ t, t = cntA a := ⟨_, rfl⟩
      rw [← ea] at Ca hsum ba
      clear ea
      obtain ⟨tb, eb⟩ : ∃ t, t = cntA b := ⟨_, rfl⟩
      rw [← eb] at Cb hsum bb
      clear eb
      obtain ⟨tu, eu⟩ : ∃ t, t = cntA u := ⟨_, rfl⟩
      rw [← eu] at Cu hsum bu
      clear eu
      obtain ⟨tm, em⟩ : ∃ t, t = cntA m := ⟨_, rfl⟩
      rw [← em] at Cm hsum bm
      clear em
      have HSUM := Lib.hid hsum
      clear hsum z1 z2 z3 z4
      obtain ⟨ba0, ba1⟩ := ba
      obtain ⟨bb0, bb1⟩ := bb
      obtain ⟨bu0, bu1⟩ := bu
      obtain ⟨bm0, bm1⟩ := bm
      go_wp2_with fail
      refine (Ca.out _ Ra.out).mono ?_
      rintro e w4 ⟨rfl, hb⟩
      have Ra := Lib.hid (Ra.out.next hb)
      have Rb := Lib.hid (Rb.out.next hb)
      have Ru := Lib.hid (Ru.out.next hb)
      have Rm := Lib.hid (Rm.out.next hb)
      have b4 := below_next b3 hb
      clear b3 hb
      go_wp2_with fail
      refine (Cb.out _ Rb.out).mono ?_
      rintro e w5 ⟨rfl, hb⟩
      have Ra := Lib.hid (Ra.out.next hb)
      have Rb := Lib.hid (Rb.out.next hb)
      have Ru := Lib.hid (Ru.out.next hb)
      have Rm := Lib.hid (Rm.out.next hb)
      have b5 := below_next b4 hb
      clear b4 hb
      go_wp2_with fail
      refine (Cu.out _ Ru.out).mono ?_
      rintro e w6 ⟨rfl, hb⟩
      have Ra := Lib.hid (Ra.out.next hb)
      have Rb := Lib.hid (Rb.out.next hb)
      have Ru := Lib.hid (Ru.out.next hb)
      have Rm := Lib.hid (Rm.out.next hb)
      have b6 := below_next b5 hb
      clear b5 hb
      go_wp2_with fail
      refine (Cm.out _ Rm.out).mono ?_
      rintro e w7 ⟨rfl, hb⟩
      have Ra := Lib.hid (Ra.out.next hb)
      have Rb := Lib.hid (Rb.out.next hb)
      have Ru := Lib.hid (Ru.out.next hb)
      have Rm := Lib.hid (Rm.out.next hb)
      have b7 := below_next b6 hb
      clear b6 hb
      have hs2 : (ta + tb == tu + tm) = true := by rw [beq_iff_eq]; exact HSUM.out
      go_wp2
      go_ret
      exact ⟨by simp, b7⟩
    · have hx := bn h2
      clear h2
      go_wp2
      go_ret
      exact ⟨by simp, b3⟩
  · have hx := bn h1
    clear h1
    go_wp2
    go_ret
    exact ⟨by simp, b3⟩
end Go.Proofs.Ytehlijnhhbdbhaa
