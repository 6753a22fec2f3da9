/- compare of the program, to the world: it lays blocks, and nothing else turns. -/
import Derived.Test.YtihodjfnhkihiaaSplJ
import Derived.Sort.Grow
import Derived.Deep.Draws
namespace Go.Proofs.Ytihodjfnhkihiaa
open Go.RowKit
set_option linter.unusedVariables false
/-- draws, and blocks behind all that lay -/
structure Grw (w w' : World) : Prop where
  out : ∃ q os, w' = Sort.grow (w.drewN q) os
theorem Grw.refl (w : World) : Grw w w := ⟨0, #[], by simp [World.drewN]⟩
theorem Grw.alloc {w w' : World} (h : Grw w w') (o : Obj) : Grw w (w'.alloc o) := by
  obtain ⟨q, os, rfl⟩ := h.out
  exact ⟨q, os.push o, by simp [Sort.grow, World.alloc, World.drewN]⟩
theorem Grw.trans {w w' w2 : World} (h : Grw w w') (k : Grw w' w2) : Grw w w2 := by
  obtain ⟨q, os, rfl⟩ := h.out
  obtain ⟨q2, os2, rfl⟩ := k.out
  exact ⟨q + q2, os ++ os2, by simp [Sort.grow, World.drewN, Nat.add_assoc, Array.append_assoc]⟩
theorem Grw.below {w w' : World} (h : Grw w w') : Below w.heap.size w w' := by
  obtain ⟨q, os, rfl⟩ := h.out
  refine ⟨rfl, rfl, rfl, by simp [Sort.grow], fun k hk => ?_⟩
  show (w.heap ++ os)[k]? = _
  rw [Array.getElem?_append_left hk]
set_option maxRecDepth 100000 in
set_option maxHeartbeats 1000000 in
theorem clo44g (x1 x2 y1 y2 : Int) (w : World) (hx : 0 ≤ x1 ∧ x1 ≤ 2000000) (hy : 0 ≤ y1 ∧ y1 ≤ 2000000) : Calls Try.prog 44 #[.agg #[.int .i64 x1, .int .i64 x2], .agg #[.int .i64 y1, .int .i64 y2]] w fun e w' => e = .returned (.int .i64 (x1 - y1)) ∧ Grw w w' := by
  obtain ⟨a0, a1⟩ := hx
  obtain ⟨b0, b1⟩ := hy
  go_enter Try.func44, Try.ntmps44
  go_wp2
  go_ret
  exact ⟨rfl, ((Grw.refl _).alloc _).alloc _⟩
set_option maxRecDepth 100000 in
set_option maxHeartbeats 1000000 in
theorem compareFunc43g (a b : List (Int × Int)) (A B : Option Addr) (n c m d : Nat) (w : World) (hn : n ≤ 1000000) (hm : m ≤ 1000000) (hsa : small a) (hsb : small b) (ha : Rds w w.heap.size 2 A n (rngs a)) (hb : Rds w w.heap.size 2 B m (rngs b)) :
    Calls Try.prog 43 #[.slice A n c, .slice B m d, .func (.func 44) #[] #[]] w fun e w' => e = .returned (.int .i64 (cmpL (keyR a) (keyR b))) ∧ Grw w w' := by
  have EG := Lib.hid (show ∀ args w, (callFunc 44 args).run Try.prog w = .ok (.enter 44 args) w from enters_of Try.func44 (by kernel_rfl) rfl)
  have HLA := Lib.hid ha.rngs_len
  have HLB := Lib.hid hb.rngs_len
  have HA := Lib.hid ha
  have HB := Lib.hid hb
  have HSA := Lib.hid hsa
  have HSB := Lib.hid hsb
  clear ha hb hsa hsb
  go_enter Try.func43, Try.ntmps43
  go_wp2_with fail
  go_loopw [13] (fun i wr => ∃ k : Nat, i = .int .i64 (k : Int) ∧ k ≤ n ∧ k ≤ m ∧ Hid (cmpL (keyR a) (keyR b) = cmpL (keyR (a.drop k)) (keyR (b.drop k))) ∧ Hid (Grw w wr)) (fun i _ => n - (intOf i).toNat)
  case atStart => exact ⟨0, by go_num, by omega, by omega, Lib.hid rfl, Lib.hid (Grw.refl _)⟩
  case round =>
    obtain ⟨k, rfl, hkn, hkm, HE, HBW⟩ := hrel
    by_cases hlt : k < n
    · have hlt' : (k : Int) < (n : Int) := by omega
      obtain ⟨b1, o1, hl1, hA, hb1, hc1, hd1⟩ := (HA.out.next HBW.out.below).rng_at hlt
      by_cases hmk : k < m
      · have hmk' : ¬ (m : Int) ≤ (k : Int) := by omega
        obtain ⟨b2, o2, hl2, hA2, hb2, hc2, hd2⟩ := (HB.out.next HBW.out.below).rng_at hmk
        have h1 := HSA.out _ (List.getElem_mem hl1)
        have h2 := HSB.out _ (List.getElem_mem hl2)
        have HST := Lib.hid (fun e => (HE.out.trans (cmpL_step hl1 hl2 e)))
        have HNE := Lib.hid (fun e => (HE.out.trans (cmpL_ne hl1 hl2 e)))
        obtain ⟨p, hp⟩ : ∃ p, p = a[k] := ⟨_, rfl⟩
        obtain ⟨q, hq⟩ : ∃ q, q = b[k] := ⟨_, rfl⟩
        rw [← hp] at hc1 hd1 h1 HST HNE
        rw [← hq] at hc2 hd2 h2 HST HNE
        clear hp hq
        obtain ⟨x1, x2⟩ := p
        obtain ⟨y1, y2⟩ := q
        simp only at hc1 hd1 h1 hc2 hd2 h2 HST HNE
        obtain ⟨f0, f1⟩ := h1
        obtain ⟨g0, g1⟩ := h2
        subst hA
        subst hA2
        go_wp2_with fail
        refine (clo44g x1 x2 y1 y2 _ ⟨f0, f1⟩ ⟨g0, g1⟩).mono ?_
        rintro e w1 ⟨rfl, hbl⟩
        have HB2 := Lib.hid (((HBW.out.alloc _).alloc _).trans hbl)
        clear hbl hc1 hd1 hc2 hd2
        by_cases hz : x1 - y1 = 0
        · have HR := Lib.hid (HST.out hz)
          go_wp2_with fail
          exact ⟨⟨k + 1, by go_num, by omega, by omega, HR, HB2⟩, by simp only [intOf]; omega⟩
        · have HR := Lib.hid (HNE.out hz)
          go_wp2
          go_ret
          exact ⟨by rw [HR.out]; rfl, HB2.out⟩
      · have hmk' : (m : Int) ≤ (k : Int) := by omega
        have HR := Lib.hid (HE.out.trans (cmpL_one hl1 (by have := HLB.out; omega)))
        subst hA
        go_wp2
        go_ret
        exact ⟨by rw [HR.out]; rfl, HBW.out.alloc _⟩
    · have hlt' : ¬ (k : Int) < (n : Int) := by omega
      have HR := Lib.hid (HE.out.trans (cmpL_end (by have := HLA.out; omega) (by have := HLB.out; omega)))
      by_cases hmn : n < m
      · have hmn' : (n : Int) < (m : Int) := by omega
        go_wp2
        go_ret
        exact ⟨by rw [HR.out, if_pos (by have := HLB.out; omega)]; rfl, HBW.out⟩
      · have hmn' : ¬ (n : Int) < (m : Int) := by omega
        go_wp2
        go_ret
        exact ⟨by rw [HR.out, if_neg (by have := HLB.out; omega)]; rfl, HBW.out⟩
set_option maxRecDepth 100000 in
set_option maxHeartbeats 1000000 in
theorem compare_23g (a b : List (Int × Int)) (A B : Option Addr) (n c m d : Nat) (w : World) (hn : n ≤ 1000000) (hm : m ≤ 1000000) (hsa : small a) (hsb : small b) (ha : Rds w w.heap.size 2 A n (rngs a)) (hb : Rds w w.heap.size 2 B m (rngs b)) :
    Calls Try.prog 23 #[.slice A n c, .slice B m d] w fun e w' => e = .returned (.int .i64 (cmpL (keyR a) (keyR b))) ∧ Grw w w' := by
  go_enter Try.func23, Try.ntmps23
  go_wp2_with fail
  refine (compareFunc43g a b A B n c m d w hn hm hsa hsb ha hb).mono ?_
  rintro e w1 ⟨rfl, hbl⟩
  go_wp2
  go_ret
  exact ⟨rfl, hbl⟩
end Go.Proofs.Ytihodjfnhkihiaa
