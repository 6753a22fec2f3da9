/- SetTurns, SetSame, walked. -/
import Derived.Test.YtehlijnhhbdbhaaLawC
namespace Go.Proofs.Ytehlijnhhbdbhaa
open Go.RowKit
set_option linter.unusedVariables false
theorem turns_again {a x g : List (Int × Int)} {x1 x3 : Int} (F1 : SFact (fun p => 0 ≤ p ∧ p ≤ 1114111 ∧ ¬ mem a p) (chk a) x x1) (F3 : SFact (fun p => 0 ≤ p ∧ p ≤ 1114111 ∧ ¬ mem x p) (chk x) g x3) (h1 : x1 = 0) : x3 = 0 ∧ sameS g a = true := by
  have s1 := F1.good h1
  have ka := (chk_ok a).1 s1.2.2
  have hs : IsSet a (fun p => 0 ≤ p ∧ p ≤ 1114111 ∧ ¬ mem x p) := ⟨ka.2, fun p => by
    show mem a p ↔ 0 ≤ p ∧ p ≤ 1114111 ∧ ¬ mem x p
    rw [s1.1.2 p]
    constructor
    · intro h; have := ka.2.mem_range h; exact ⟨this.1, this.2, fun k => k.2.2 h⟩
    · rintro ⟨h0, h1, h2⟩; exact Classical.byContradiction fun k => h2 ⟨h0, h1, k⟩⟩
  obtain ⟨e1, e2⟩ := F3.of_set s1.2.1 hs ka.1
  exact ⟨e1, by subst e2; simp [sameS]⟩
theorem turns_both {a b x y u m n : List (Int × Int)} {x1 x2 x4 x5 x6 : Int} (F1 : SFact (fun p => 0 ≤ p ∧ p ≤ 1114111 ∧ ¬ mem a p) (chk a) x x1) (F2 : SFact (fun p => 0 ≤ p ∧ p ≤ 1114111 ∧ ¬ mem b p) (chk b) y x2)
    (F4 : SFact (fun p => mem a p ∨ mem b p) (chk2 a b) u x4) (F5 : SFact (fun p => mem x p ∧ mem y p) (chk2 x y) m x5) (F6 : SFact (fun p => 0 ≤ p ∧ p ≤ 1114111 ∧ ¬ mem u p) (chk u) n x6)
    (h1 : x1 = 0) (h2 : x2 = 0) (h4 : x4 = 0) (h5 : x5 = 0) (h6 : x6 = 0) : sameS n m = true := by
  have s1 := (F1.good h1).1
  have s2 := (F2.good h2).1
  have s4 := (F4.good h4).1
  have s5 := (F5.good h5).1
  have s6 := (F6.good h6).1
  have : n = m := s6.eq s5 fun p => by
    show (0 ≤ p ∧ p ≤ 1114111 ∧ ¬ mem u p) ↔ (mem x p ∧ mem y p)
    rw [s1.2 p, s2.2 p, s4.2 p]
    constructor
    · rintro ⟨h0, h1, h2⟩; exact ⟨⟨h0, h1, fun k => h2 (.inl k)⟩, ⟨h0, h1, fun k => h2 (.inr k)⟩⟩
    · rintro ⟨⟨h0, h1, h2⟩, _, _, h3⟩; exact ⟨h0, h1, fun k => k.elim h2 h3⟩
  subst this
  simp [sameS]
theorem turns_none {a b l z : List (Int × Int)} {x7 x8 : Int} {nz : Nat} (F7 : SFact (fun p => mem a p ∧ ¬ mem b p) (chk2 a b) l x7) (F8 : SFact (fun p => mem l p ∧ mem b p) (chk2 l b) z x8) (h7 : x7 = 0) (hz : z.length = nz) : x8 = 0 ∧ nz = 0 := by
  have s7 := F7.good h7
  have k := chk2_zero s7.2.2
  have hs : IsSet [] (fun p => mem l p ∧ mem b p) := ⟨Can.nil, fun p => ⟨fun h => absurd h (mem_nil p), fun ⟨h1, h2⟩ => absurd h2 ((s7.1.2 p).1 h1).2⟩⟩
  obtain ⟨e1, e2⟩ := F8.of_set (chk2_mk s7.2.1 k.2) hs (by simp)
  subst e2
  exact ⟨e1, hz.symm⟩
set_option maxRecDepth 100000 in
set_option maxHeartbeats 2000000 in
theorem lawTurns (a : List (Int × Int)) (b : List (Int × Int)) (Aa : Option Addr) (na ca : Nat) (Ab : Option Addr) (nb cb : Nat) (w : World) (ha : na ≤ ca) (ka : ca ≤ maxLen) (ra : Rds w w.heap.size 2 Aa na (rngs a)) (hb : nb ≤ cb) (kb : cb ≤ maxLen) (rb : Rds w w.heap.size 2 Ab nb (rngs b)) :
    Calls Try.prog 11 #[.slice Aa na ca, .slice Ab nb cb] w fun e w' => e = .returned (.bool true) ∧ Below w.heap.size w w' := by
  have Ra := Lib.hid ra
  have Rb := Lib.hid rb
  have La := Lib.hid ra.rngs_len
  have Lb := Lib.hid rb.rngs_len
  clear ra rb
  go_enter Try.func11, Try.ntmps11
  go_wp2_with fail
  refine (setBegun29 _).mono ?_
  rintro e w1 ⟨rfl, hb⟩
  have Ra := Lib.hid (Ra.out.next hb)
  have Rb := Lib.hid (Rb.out.next hb)
  have b1 := hb
  clear hb
  go_wp2_with fail
  refine (notS a Aa na ca _ ha ka Ra.out).mono ?_
  rintro e w2 ⟨x, Ax, nx, cx, x1, rfl, Fx, hx, kx, Lx, Rx_, hb⟩
  have Ra := Lib.hid (Ra.out.next hb)
  have Rb := Lib.hid (Rb.out.next hb)
  have b2 := below_next b1 hb
  clear b1 hb
  have Rx := Rx_
  go_wp2_with fail
  refine (notS b Ab nb cb _ hb kb Rb.out).mono ?_
  rintro e w3 ⟨y, Ay, ny, cy, x2, rfl, Fy, hy, ky, Ly, Ry_, hb⟩
  have Ra := Lib.hid (Ra.out.next hb)
  have Rb := Lib.hid (Rb.out.next hb)
  have Rx := Lib.hid (Rx.out.next hb)
  have b3 := below_next b2 hb
  clear b2 hb
  have Ry := Ry_
  by_cases h1 : x1 = 0
  · subst h1
    by_cases h2 : x2 = 0
    · subst h2
      go_wp2_with fail
      refine (notS x Ax nx cx _ hx kx Rx.out).mono ?_
      rintro e w4 ⟨g, Ag, ng, cg, x3, rfl, Fg, hg, kg, Lg, Rg_, hb⟩
      have Ra := Lib.hid (Ra.out.next hb)
      have Rb := Lib.hid (Rb.out.next hb)
      have Rx := Lib.hid (Rx.out.next hb)
      have Ry := Lib.hid (Ry.out.next hb)
      have b4 := below_next b3 hb
      clear b3 hb
      have Rg := Rg_
      obtain ⟨h3, hs⟩ := turns_again Fx.out Fg.out rfl
      subst h3
      have HS := Lib.hid hs
      clear hs
      go_wp2_with fail
      refine (sameS_ g a true HS.out Ag Aa ng na cg ca _ (by omega) (by omega) Rg.out Ra.out).mono ?_
      rintro e w5 ⟨rfl, hb⟩
      have Ra := Lib.hid (Ra.out.next hb)
      have Rb := Lib.hid (Rb.out.next hb)
      have Rx := Lib.hid (Rx.out.next hb)
      have Ry := Lib.hid (Ry.out.next hb)
      have Rg := Lib.hid (Rg.out.next hb)
      have b5 := below_next b4 hb
      clear b4 hb
      go_wp2_with fail
      refine (unionS a b Aa Ab na ca nb cb _ ha ka hb kb Ra.out Rb.out).mono ?_
      rintro e w6 ⟨u, Au, nu, cu, x4, rfl, Fu, hu, ku, Lu, Ru_, hb⟩
      have Ra := Lib.hid (Ra.out.next hb)
      have Rb := Lib.hid (Rb.out.next hb)
      have Rx := Lib.hid (Rx.out.next hb)
      have Ry := Lib.hid (Ry.out.next hb)
      have Rg := Lib.hid (Rg.out.next hb)
      have b6 := below_next b5 hb
      clear b5 hb
      have Ru := Ru_
      go_wp2_with fail
      refine (meetS x y Ax Ay nx cx ny cy _ hx kx hy ky Rx.out Ry.out).mono ?_
      rintro e w7 ⟨m, Am, nm, cm, x5, rfl, Fm, hm, km, Lm, Rm_, hb⟩
      have Ra := Lib.hid (Ra.out.next hb)
      have Rb := Lib.hid (Rb.out.next hb)
      have Rx := Lib.hid (Rx.out.next hb)
      have Ry := Lib.hid (Ry.out.next hb)
      have Rg := Lib.hid (Rg.out.next hb)
      have Ru := Lib.hid (Ru.out.next hb)
      have b7 := below_next b6 hb
      clear b6 hb
      have Rm := Rm_
      by_cases h4 : x4 = 0
      · subst h4
        by_cases h5 : x5 = 0
        · subst h5
          go_wp2_with fail
          refine (notS u Au nu cu _ hu ku Ru.out).mono ?_
          rintro e w8 ⟨n, An, nn, cn, x6, rfl, Fn, hn, kn, Ln, Rn_, hb⟩
          have Ra := Lib.hid (Ra.out.next hb)
          have Rb := Lib.hid (Rb.out.next hb)
          have Rx := Lib.hid (Rx.out.next hb)
          have Ry := Lib.hid (Ry.out.next hb)
          have Rg := Lib.hid (Rg.out.next hb)
          have Ru := Lib.hid (Ru.out.next hb)
          have Rm := Lib.hid (Rm.out.next hb)
          have b8 := below_next b7 hb
          clear b7 hb
          have Rn := Rn_
          by_cases h6 : x6 = 0
          · subst h6
            have HN := Lib.hid (turns_both Fx.out Fy.out Fu.out Fm.out Fn.out rfl rfl rfl rfl rfl)
            go_wp2_with fail
            refine (sameS_ n m true HN.out An Am nn nm cn cm _ (by omega) (by omega) Rn.out Rm.out).mono ?_
            rintro e w9 ⟨rfl, hb⟩
            have Ra := Lib.hid (Ra.out.next hb)
            have Rb := Lib.hid (Rb.out.next hb)
            have Rx := Lib.hid (Rx.out.next hb)
            have Ry := Lib.hid (Ry.out.next hb)
            have Rg := Lib.hid (Rg.out.next hb)
            have Ru := Lib.hid (Ru.out.next hb)
            have Rm := Lib.hid (Rm.out.next hb)
            have Rn := Lib.hid (Rn.out.next hb)
            have b9 := below_next b8 hb
            clear b8 hb
            go_wp2_with fail
            refine (lessS a b Aa Ab na ca nb cb _ ha ka hb kb Ra.out Rb.out).mono ?_
            rintro e w10 ⟨l, Al, nl, cl, x7, rfl, Fl, hl, kl, Ll, Rl_, hb⟩
            have Ra := Lib.hid (Ra.out.next hb)
            have Rb := Lib.hid (Rb.out.next hb)
            have Rx := Lib.hid (Rx.out.next hb)
            have Ry := Lib.hid (Ry.out.next hb)
            have Rg := Lib.hid (Rg.out.next hb)
            have Ru := Lib.hid (Ru.out.next hb)
            have Rm := Lib.hid (Rm.out.next hb)
            have Rn := Lib.hid (Rn.out.next hb)
            have b10 := below_next b9 hb
            clear b9 hb
            have Rl := Rl_
            go_wp2_with fail
            refine (meetS l b Al Ab nl cl nb cb _ hl kl hb kb Rl.out Rb.out).mono ?_
            rintro e w11 ⟨z, Az, nz, cz, x8, rfl, Fz, hz, kz, Lz, Rz_, hb⟩
            have Ra := Lib.hid (Ra.out.next hb)
            have Rb := Lib.hid (Rb.out.next hb)
            have Rx := Lib.hid (Rx.out.next hb)
            have Ry := Lib.hid (Ry.out.next hb)
            have Rg := Lib.hid (Rg.out.next hb)
            have Ru := Lib.hid (Ru.out.next hb)
            have Rm := Lib.hid (Rm.out.next hb)
            have Rn := Lib.hid (Rn.out.next hb)
            have Rl := Lib.hid (Rl.out.next hb)
            have b11 := below_next b10 hb
            clear b10 hb
            have Rz := Rz_
            by_cases h7 : x7 = 0
            · subst h7
              obtain ⟨h8, hz⟩ := turns_none Fl.out Fz.out rfl Lz.out
              subst h8 hz
              go_wp2
              go_ret
              exact ⟨by simp, b11⟩
            · have hx := bn h7
              clear h7
              go_wp2
              go_ret
              exact ⟨by simp, b11⟩
          · have hx6 := bz h6
            clear h6
            go_wp2_with fail
            refine (lessS a b Aa Ab na ca nb cb _ ha ka hb kb Ra.out Rb.out).mono ?_
            rintro e w9 ⟨l, Al, nl, cl, x7, rfl, Fl, hl, kl, Ll, Rl_, hb⟩
            have Ra := Lib.hid (Ra.out.next hb)
            have Rb := Lib.hid (Rb.out.next hb)
            have Rx := Lib.hid (Rx.out.next hb)
            have Ry := Lib.hid (Ry.out.next hb)
            have Rg := Lib.hid (Rg.out.next hb)
            have Ru := Lib.hid (Ru.out.next hb)
            have Rm := Lib.hid (Rm.out.next hb)
            have Rn := Lib.hid (Rn.out.next hb)
            have b9 := below_next b8 hb
            clear b8 hb
            have Rl := Rl_
            go_wp2_with fail
            refine (meetS l b Al Ab nl cl nb cb _ hl kl hb kb Rl.out Rb.out).mono ?_
            rintro e w10 ⟨z, Az, nz, cz, x8, rfl, Fz, hz, kz, Lz, Rz_, hb⟩
            have Ra := Lib.hid (Ra.out.next hb)
            have Rb := Lib.hid (Rb.out.next hb)
            have Rx := Lib.hid (Rx.out.next hb)
            have Ry := Lib.hid (Ry.out.next hb)
            have Rg := Lib.hid (Rg.out.next hb)
            have Ru := Lib.hid (Ru.out.next hb)
            have Rm := Lib.hid (Rm.out.next hb)
            have Rn := Lib.hid (Rn.out.next hb)
            have Rl := Lib.hid (Rl.out.next hb)
            have b10 := below_next b9 hb
            clear b9 hb
            have Rz := Rz_
            by_cases h7 : x7 = 0
            · subst h7
              obtain ⟨h8, hz⟩ := turns_none Fl.out Fz.out rfl Lz.out
              subst h8 hz
              go_wp2
              go_ret
              exact ⟨by simp, b10⟩
            · have hx := bn h7
              clear h7
              go_wp2
              go_ret
              exact ⟨by simp, b10⟩
        · have hx5 := bz h5
          clear h5
          go_wp2_with fail
          refine (lessS a b Aa Ab na ca nb cb _ ha ka hb kb Ra.out Rb.out).mono ?_
          rintro e w8 ⟨l, Al, nl, cl, x7, rfl, Fl, hl, kl, Ll, Rl_, hb⟩
          have Ra := Lib.hid (Ra.out.next hb)
          have Rb := Lib.hid (Rb.out.next hb)
          have Rx := Lib.hid (Rx.out.next hb)
          have Ry := Lib.hid (Ry.out.next hb)
          have Rg := Lib.hid (Rg.out.next hb)
          have Ru := Lib.hid (Ru.out.next hb)
          have Rm := Lib.hid (Rm.out.next hb)
          have b8 := below_next b7 hb
          clear b7 hb
          have Rl := Rl_
          go_wp2_with fail
          refine (meetS l b Al Ab nl cl nb cb _ hl kl hb kb Rl.out Rb.out).mono ?_
          rintro e w9 ⟨z, Az, nz, cz, x8, rfl, Fz, hz, kz, Lz, Rz_, hb⟩
          have Ra := Lib.hid (Ra.out.next hb)
          have Rb := Lib.hid (Rb.out.next hb)
          have Rx := Lib.hid (Rx.out.next hb)
          have Ry := Lib.hid (Ry.out.next hb)
          have Rg := Lib.hid (Rg.out.next hb)
          have Ru := Lib.hid (Ru.out.next hb)
          have Rm := Lib.hid (Rm.out.next hb)
          have Rl := Lib.hid (Rl.out.next hb)
          have b9 := below_next b8 hb
          clear b8 hb
          have Rz := Rz_
          by_cases h7 : x7 = 0
          · subst h7
            obtain ⟨h8, hz⟩ := turns_none Fl.out Fz.out rfl Lz.out
            subst h8 hz
            go_wp2
            go_ret
            exact ⟨by simp, b9⟩
          · have hx := bn h7
            clear h7
            go_wp2
            go_ret
            exact ⟨by simp, b9⟩
      · have hx4 := bz h4
        clear h4
        go_wp2_with fail
        refine (lessS a b Aa Ab na ca nb cb _ ha ka hb kb Ra.out Rb.out).mono ?_
        rintro e w8 ⟨l, Al, nl, cl, x7, rfl, Fl, hl, kl, Ll, Rl_, hb⟩
        have Ra := Lib.hid (Ra.out.next hb)
        have Rb := Lib.hid (Rb.out.next hb)
        have Rx := Lib.hid (Rx.out.next hb)
        have Ry := Lib.hid (Ry.out.next hb)
        have Rg := Lib.hid (Rg.out.next hb)
        have Ru := Lib.hid (Ru.out.next hb)
        have Rm := Lib.hid (Rm.out.next hb)
        have b8 := below_next b7 hb
        clear b7 hb
        have Rl := Rl_
        go_wp2_with fail
        refine (meetS l b Al Ab nl cl nb cb _ hl kl hb kb Rl.out Rb.out).mono ?_
        rintro e w9 ⟨z, Az, nz, cz, x8, rfl, Fz, hz, kz, Lz, Rz_, hb⟩
        have Ra := Lib.hid (Ra.out.next hb)
        have Rb := Lib.hid (Rb.out.next hb)
        have Rx := Lib.hid (Rx.out.next hb)
        have Ry := Lib.hid (Ry.out.next hb)
        have Rg := Lib.hid (Rg.out.next hb)
        have Ru := Lib.hid (Ru.out.next hb)
        have Rm := Lib.hid (Rm.out.next hb)
        have Rl := Lib.hid (Rl.out.next hb)
        have b9 := below_next b8 hb
        clear b8 hb
        have Rz := Rz_
        by_cases h7 : x7 = 0
        · subst h7
          obtain ⟨h8, hz⟩ := turns_none Fl.out Fz.out rfl Lz.out
          subst h8 hz
          go_wp2
          go_ret
          exact ⟨by simp, b9⟩
        · have hx := bn h7
          clear h7
          go_wp2
          go_ret
          exact ⟨by simp, b9⟩
    · have hx := bn h2
      clear h2
      go_wp2
      go_ret
      exact ⟨by simp, b3⟩
  · have hx := bn h1
    clear h1
    go_wp2
    go_ret
    exact ⟨by simp, b3⟩
theorem hasE_zero {a : List (Int × Int)} {p : Int} (h : hasE a p = 0) : chk a = 0 ∧ (decide (0 ≤ p) && decide (p ≤ 1114111)) = true := by
  unfold hasE at h
  by_cases h0 : chk a = 0
  · rw [if_pos h0] at h
    refine ⟨h0, ?_⟩
    cases hp : (decide (0 ≤ p) && decide (p ≤ 1114111))
    · rw [hp] at h; simp at h
    · rfl
  · rw [if_neg h0] at h; exact absurd h h0
theorem hasE_mk {a : List (Int × Int)} {p : Int} (h : chk a = 0) (hp : (decide (0 ≤ p) && decide (p ≤ 1114111)) = true) : hasE a p = 0 := by unfold hasE; rw [if_pos h, if_pos hp]
theorem hasB_mk {a : List (Int × Int)} {p : Int} (h : hasE a p = 0) : hasB a p = memB a p := by unfold hasB; rw [h]; rfl
theorem same_end {a u : List (Int × Int)} {p x2 : Int} (h1 : hasE a p = 0) (F : SFact (fun x => mem a x ∨ mem [(p, p)] x) (chk2 a [(p, p)]) u x2) (h2 : x2 = 0) :
    chk a = 0 ∧ chk u = 0 ∧ hasE u p = 0 ∧ hasB u p = true ∧ (cntA u = cntA a + if hasB a p then 0 else 1) ∧ sameS a u = hasB a p ∧ (0 ≤ cntA a ∧ cntA a ≤ 1114112) := by
  obtain ⟨ka, kp⟩ := hasE_zero h1
  have s := F.good h2
  have ku := hasE_mk s.2.1 kp
  have hp : 0 ≤ p ∧ p ≤ 1114111 := by simpa using kp
  have cB : ∀ {z : List (Int × Int)}, chk z = 0 → cntA z = cntB (memB z) 1114112 := fun hz => by unfold cntA; rw [if_pos hz]; exact countL_cnt ((chk_ok _).1 hz).2
  have eu : memB u = fun x => memB a x || memB [(p, p)] x := by
    funext x
    rw [Bool.eq_iff_iff, Bool.or_eq_true, memB_iff, memB_iff, memB_iff]; exact s.1.2 x
  have e1 := cntB_or (f := memB a) (g := memB [(p, p)]) 1114112
  have kpp : chk [(p, p)] = 0 := (chk_ok _).2 ⟨by simp, ⟨fun r hr => by rw [List.mem_singleton.1 hr, okR_iff]; exact ⟨hp.1, Int.le_refl _, hp.2⟩, .cons (by simp) .nil⟩⟩
  have e2 := cB kpp
  have e3 : cntA [(p, p)] = 1 := by unfold cntA; rw [if_pos kpp]; simp [countL]; omega
  have bd : ∀ (f : Int → Bool) (k : Nat), cntB f k ≤ k := fun f k => by
    induction k with
    | zero => exact Nat.le_refl _
    | succ k ih => have := Bool.toNat_le (f k); simp only [cntB]; omega
  have b1 := bd (memB a) 1114112
  have mp : memB [(p, p)] p = true := by simp [memB]
  have mo : ∀ x, x ≠ p → memB [(p, p)] x = false := fun x hx => by simp [memB]; omega
  refine ⟨ka, s.2.1, ku, ?_, ?_, ?_, ?_⟩
  · rw [hasB_mk ku, eu]
    show (memB a p || memB [(p, p)] p) = true
    rw [mp, Bool.or_true]
  · rw [cB ka, cB s.2.1, hasB_mk h1, eu]
    cases hm : memB a p
    · have e4 : cntB (fun x => memB a x && memB [(p, p)] x) 1114112 = 0 := by
        rw [cntB_congr (g := fun _ => false), cntB_false]
        intro x _ _
        by_cases hx : x = p
        · subst hx; rw [hm]; rfl
        · rw [mo x hx, Bool.and_false]
      simp only [Bool.false_eq_true, if_false]
      omega
    · have e4 : cntB (fun x => memB a x && memB [(p, p)] x) 1114112 = cntB (memB [(p, p)]) 1114112 := by
        apply cntB_congr
        intro x _ _
        by_cases hx : x = p
        · subst hx; rw [hm, mp]; rfl
        · rw [mo x hx, Bool.and_false]
      simp only [if_true]
      omega
  · rw [hasB_mk h1]
    cases hm : memB a p
    · simp only [sameS, decide_eq_false_iff_not]
      intro e
      have := congrFun eu p
      rw [← e, hm, mp] at this
      cases this
    · simp only [sameS, decide_eq_true_eq]
      refine Can.ext ((chk_ok a).1 ka).2 s.1.1 fun x => ?_
      rw [s.1.2 x]
      show mem a x ↔ (mem a x ∨ mem [(p, p)] x)
      rw [mem_cons]
      have := mem_nil x
      constructor
      · exact .inl
      · rintro (h | h | h)
        · exact h
        · have : x = p := by simp at h; omega
          subst this; exact (memB_iff a x).1 hm
        · exact absurd h this
  · rw [cB ka]; omega
set_option maxRecDepth 100000 in
set_option maxHeartbeats 2000000 in
theorem lawSame (a : List (Int × Int)) (p : Int) (hpp : -9223372036854775808 ≤ p ∧ p ≤ 9223372036854775807) (Aa : Option Addr) (na ca : Nat) (w : World) (ha : na ≤ ca) (ka : ca ≤ maxLen) (ra : Rds w w.heap.size 2 Aa na (rngs a)) :
    Calls Try.prog 13 #[.slice Aa na ca, .int .i64 p] w fun e w' => e = .returned (.bool true) ∧ Below w.heap.size w w' := by
  have Ra := Lib.hid ra
  have La := Lib.hid ra.rngs_len
  clear ra
  have CH := Lib.hid (fun w' r => has42 a p Aa na ca w' ha ka r)
  obtain ⟨v, hv⟩ : ∃ v, v = hasB a p := ⟨_, rfl⟩
  obtain ⟨E, hE⟩ : ∃ E, E = hasE a p := ⟨_, rfl⟩
  rw [← hv, ← hE] at CH
  have HV := Lib.hid hv
  have HE := Lib.hid hE
  clear hv hE
  go_enter Try.func13, Try.ntmps13
  go_wp2_with fail
  refine (setBegun29 _).mono ?_
  rintro e w1 ⟨rfl, hb⟩
  have Ra := Lib.hid (Ra.out.next hb)
  have b1 := hb
  clear hb
  go_wp2_with fail
  refine (CH.out _ Ra.out).mono ?_
  rintro e w2 ⟨rfl, hb⟩
  have Ra := Lib.hid (Ra.out.next hb)
  have b2 := below_next b1 hb
  clear b1 hb
  have hb0 : Below w2.heap.size w2 (w2.alloc (.cells #[.int .i64 p, .int .i64 p] 44)) := by go_grown
  have Ra3 := Lib.hid (Ra.out.next hb0)
  have Rp3 := Lib.hid ((Rds.new w2 2 1 #[.int .i64 p, .int .i64 p] 44 (rngs [(p, p)]) rfl rfl).more (B' := (w2.alloc (.cells #[.int .i64 p, .int .i64 p] 44)).heap.size) (by simp))
  have b3 := below_next b2 hb0
  clear hb0 b2
  go_wp2_with fail
  refine (unionS a [(p, p)] Aa _ na ca 1 1 _ ha ka (by decide) (by decide) Ra3.out Rp3.out).mono ?_
  rintro e w4 ⟨u, Au, nu, cu, x2, rfl, Fu, hu, ku, Lu, Ru, hb⟩
  have Ra := Lib.hid (Ra3.out.next hb)
  have b4 := below_next b3 hb
  clear hb b3
  by_cases h1 : E = 0
  · subst h1
    by_cases h2 : x2 = 0
    · subst h2
      obtain ⟨z1, z2, z3, z4, z5, z6, z7, z8⟩ := same_end HE.out.symm Fu.out rfl
      have C1 := Lib.hid (fun w' r => count43 a Aa na ca w' ha ka r)
      have C2 := Lib.hid (fun w' r => count43 u Au nu cu w' hu ku r)
      have C3 := Lib.hid (fun w' r => has42 u p Au nu cu w' hu ku r)
      have C4 := Lib.hid (fun w' r r2 => sameS_ a u v (by rw [HV.out]; exact z6) Aa Au na nu ca cu w' (by omega) (by omega) r r2)
      rw [z1] at C1
      rw [z2] at C2
      rw [z3, z4] at C3
      rw [← HV.out] at z5
      obtain ⟨s, hs⟩ : ∃ s, s = cntA a := ⟨_, rfl⟩
      obtain ⟨t, ht⟩ : ∃ t, t = cntA u := ⟨_, rfl⟩
      rw [← hs] at C1 z5 z7 z8
      rw [← ht] at C2 z5
      have HT := Lib.hid z5
      clear z1 z2 z3 z4 z5 z6 hs ht
      go_wp2_with fail
      refine (C1.out _ Ra.out).mono ?_
      rintro e w5 ⟨rfl, hb⟩
      have Ra := Lib.hid (Ra.out.next hb)
      have Ru := Lib.hid (Ru.out.next hb)
      have b5 := below_next b4 hb
      clear b4 hb
      go_wp2_with fail
      refine (C2.out _ Ru.out).mono ?_
      rintro e w6 ⟨rfl, hb⟩
      have Ra := Lib.hid (Ra.out.next hb)
      have Ru := Lib.hid (Ru.out.next hb)
      have b6 := below_next b5 hb
      clear b5 hb
      go_wp2_with fail
      refine (C3.out _ Ru.out).mono ?_
      rintro e w7 ⟨rfl, hb⟩
      have Ra := Lib.hid (Ra.out.next hb)
      have Ru := Lib.hid (Ru.out.next hb)
      have b7 := below_next b6 hb
      clear b6 hb
      cases v
      · have ht : (t == s + 1) = true := by rw [beq_iff_eq]; have := HT.out; simp at this; omega
        go_wp2_with fail
        refine (C4.out _ Ra.out Ru.out).mono ?_
        rintro e w8 ⟨rfl, hb⟩
        have Ra := Lib.hid (Ra.out.next hb)
        have Ru := Lib.hid (Ru.out.next hb)
        have b8 := below_next b7 hb
        clear b7 hb
        go_wp2
        go_ret
        exact ⟨by simp, b8⟩
      · have ht : (t == s + 0) = true := by rw [beq_iff_eq]; have := HT.out; simp at this; omega
        have ht2 : (t == s) = true := by simpa using ht
        go_wp2_with fail
        refine (C4.out _ Ra.out Ru.out).mono ?_
        rintro e w8 ⟨rfl, hb⟩
        have Ra := Lib.hid (Ra.out.next hb)
        have Ru := Lib.hid (Ru.out.next hb)
        have b8 := below_next b7 hb
        clear b7 hb
        go_wp2
        go_ret
        exact ⟨by simp, b8⟩
    · have hx := bn h2
      clear h2
      go_wp2
      go_ret
      exact ⟨by simp, b4⟩
  · have hx := bn h1
    clear h1
    go_wp2
    go_ret
    exact ⟨by simp, b4⟩
end Go.Proofs.Ytehlijnhhbdbhaa
