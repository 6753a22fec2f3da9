/-
  compare of the program, CompareFunc of slices: walked. compare of the program, to the world: it lays blocks, and nothing else turns.
-/
import Derived.Test.YtpdcbddofekbcaaGreatGT
import Derived.Sort.Grow
import Derived.Deep.Draws
namespace Go.Proofs.YtpdcbddofekbcaaGreat
open Go.RowKit
set_option linter.unusedVariables false
def small (r : List (Int × Int)) : Prop := ∀ x ∈ r, 0 ≤ x.1 ∧ x.1 ≤ 2000000
theorem cmpL_step {a b : List (Int × Int)} {k : Nat} (ha : k < a.length) (hb : k < b.length) (e : a[k].1 - b[k].1 = 0) : cmpL (keyR (a.drop k)) (keyR (b.drop k)) = cmpL (keyR (a.drop (k + 1))) (keyR (b.drop (k + 1))) := by
  rw [List.drop_eq_getElem_cons ha, List.drop_eq_getElem_cons hb]
  simp only [keyR, List.map_cons, cmpL]
  rw [if_neg (by omega)]
theorem cmpL_ne {a b : List (Int × Int)} {k : Nat} (ha : k < a.length) (hb : k < b.length) (e : a[k].1 - b[k].1 ≠ 0) : cmpL (keyR (a.drop k)) (keyR (b.drop k)) = a[k].1 - b[k].1 := by
  rw [List.drop_eq_getElem_cons ha, List.drop_eq_getElem_cons hb]
  simp only [keyR, List.map_cons, cmpL]
  rw [if_pos e]
theorem cmpL_one {a b : List (Int × Int)} {k : Nat} (ha : k < a.length) (hb : b.length ≤ k) : cmpL (keyR (a.drop k)) (keyR (b.drop k)) = 1 := by
  rw [List.drop_eq_getElem_cons ha, List.drop_eq_nil_of_le hb]
  rfl
theorem cmpL_end {a b : List (Int × Int)} {k : Nat} (ha : a.length ≤ k) (hk : k ≤ b.length) : cmpL (keyR (a.drop k)) (keyR (b.drop k)) = if k < b.length then -1 else 0 := by
  rw [List.drop_eq_nil_of_le ha]
  by_cases h : k < b.length
  · rw [if_pos h, List.drop_eq_getElem_cons h]; rfl
  · rw [if_neg h, List.drop_eq_nil_of_le (by omega)]; rfl
set_option maxRecDepth 100000 in
set_option maxHeartbeats 1000000 in
theorem clo44 (x1 x2 y1 y2 : Int) (w : World) (hx : 0 ≤ x1 ∧ x1 ≤ 2000000) (hy : 0 ≤ y1 ∧ y1 ≤ 2000000) : Calls Tryz.prog 63 #[.agg #[.int .i64 x1, .int .i64 x2], .agg #[.int .i64 y1, .int .i64 y2]] w fun e w' => e = .returned (.int .i64 (x1 - y1)) ∧ Below w.heap.size w w' := by
  obtain ⟨a0, a1⟩ := hx
  obtain ⟨b0, b1⟩ := hy
  go_enter Tryz.func63, Tryz.ntmps63
  go_wp2
  go_ret
  exact ⟨rfl, by go_grown⟩
set_option maxRecDepth 100000 in
set_option maxHeartbeats 1000000 in
theorem compareFunc43 (a b : List (Int × Int)) (A B : Option Addr) (n c m d : Nat) (w : World) (hn : n ≤ 1000000) (hm : m ≤ 1000000) (hsa : small a) (hsb : small b) (ha : Rds w w.heap.size 2 A n (rngs a)) (hb : Rds w w.heap.size 2 B m (rngs b)) :
    Calls Tryz.prog 62 #[.slice A n c, .slice B m d, .func (.func 63) #[] #[]] w fun e w' => e = .returned (.int .i64 (cmpL (keyR a) (keyR b))) ∧ Below w.heap.size w w' := by
  have EG := Lib.hid (show ∀ args w, (callFunc 63 args).run Tryz.prog w = .ok (.enter 63 args) w from enters_of Tryz.func63 (by kernel_rfl) rfl)
  have HLA := Lib.hid ha.rngs_len
  have HLB := Lib.hid hb.rngs_len
  have HA := Lib.hid ha
  have HB := Lib.hid hb
  have HSA := Lib.hid hsa
  have HSB := Lib.hid hsb
  clear ha hb hsa hsb
  go_enter Tryz.func62, Tryz.ntmps62
  go_wp2_with fail
  go_loopw [13] (fun i wr => ∃ k : Nat, i = .int .i64 (k : Int) ∧ k ≤ n ∧ k ≤ m ∧ Hid (cmpL (keyR a) (keyR b) = cmpL (keyR (a.drop k)) (keyR (b.drop k))) ∧ Hid (Below w.heap.size w wr)) (fun i _ => n - (intOf i).toNat)
  case atStart => exact ⟨0, by go_num, by omega, by omega, Lib.hid rfl, Lib.hid (Below.refl _ _)⟩
  case round =>
    obtain ⟨k, rfl, hkn, hkm, HE, HBW⟩ := hrel
    by_cases hlt : k < n
    · have hlt' : (k : Int) < (n : Int) := by omega
      obtain ⟨b1, o1, hl1, hA, hb1, hc1, hd1⟩ := (HA.out.next HBW.out).rng_at hlt
      by_cases hmk : k < m
      · have hmk' : ¬ (m : Int) ≤ (k : Int) := by omega
        obtain ⟨b2, o2, hl2, hA2, hb2, hc2, hd2⟩ := (HB.out.next HBW.out).rng_at hmk
        have h1 := HSA.out _ (List.getElem_mem hl1)
        have h2 := HSB.out _ (List.getElem_mem hl2)
        have HST := Lib.hid (fun e => (HE.out.trans (cmpL_step hl1 hl2 e)))
        have HNE := Lib.hid (fun e => (HE.out.trans (cmpL_ne hl1 hl2 e)))
        obtain ⟨p, hp⟩ : ∃ p, p = a[k] := ⟨_, rfl⟩
        obtain ⟨q, hq⟩ : ∃ q, q = b[k] := ⟨_, rfl⟩
        rw [← hp] at hc1 hd1 h1 HST HNE
        rw [← hq] at hc2 hd2 h2 HST HNE
        clear hp hq
        obtain ⟨x1, x2⟩ := p
        obtain ⟨y1, y2⟩ := q
        simp only at hc1 hd1 h1 hc2 hd2 h2 HST HNE
        obtain ⟨f0, f1⟩ := h1
        obtain ⟨g0, g1⟩ := h2
        subst hA
        subst hA2
        go_wp2_with fail
        refine (clo44 x1 x2 y1 y2 _ ⟨f0, f1⟩ ⟨g0, g1⟩).mono ?_
        rintro e w1 ⟨rfl, hbl⟩
        have HB2 := Lib.hid (HBW.out.trans ((show Below wr.heap.size wr w1 from Below.trans (by go_grown) (hbl.mono (by simp; omega))).mono HBW.out.size))
        clear hbl hc1 hd1 hc2 hd2
        by_cases hz : x1 - y1 = 0
        · have HR := Lib.hid (HST.out hz)
          go_wp2_with fail
          exact ⟨⟨k + 1, by go_num, by omega, by omega, HR, HB2⟩, by simp only [intOf]; omega⟩
        · have HR := Lib.hid (HNE.out hz)
          go_wp2
          go_ret
          exact ⟨by rw [HR.out]; rfl, HB2.out⟩
      · have hmk' : (m : Int) ≤ (k : Int) := by omega
        have HR := Lib.hid (HE.out.trans (cmpL_one hl1 (by have := HLB.out; omega)))
        subst hA
        go_wp2
        go_ret
        exact ⟨by rw [HR.out]; rfl, below_next HBW.out (by go_grown)⟩
    · have hlt' : ¬ (k : Int) < (n : Int) := by omega
      have HR := Lib.hid (HE.out.trans (cmpL_end (by have := HLA.out; omega) (by have := HLB.out; omega)))
      by_cases hmn : n < m
      · have hmn' : (n : Int) < (m : Int) := by omega
        go_wp2
        go_ret
        exact ⟨by rw [HR.out, if_pos (by have := HLB.out; omega)]; rfl, HBW.out⟩
      · have hmn' : ¬ (n : Int) < (m : Int) := by omega
        go_wp2
        go_ret
        exact ⟨by rw [HR.out, if_neg (by have := HLB.out; omega)]; rfl, HBW.out⟩
set_option maxRecDepth 100000 in
set_option maxHeartbeats 1000000 in
theorem compare_23 (a b : List (Int × Int)) (A B : Option Addr) (n c m d : Nat) (w : World) (hn : n ≤ 1000000) (hm : m ≤ 1000000) (hsa : small a) (hsb : small b) (ha : Rds w w.heap.size 2 A n (rngs a)) (hb : Rds w w.heap.size 2 B m (rngs b)) :
    Calls Tryz.prog 32 #[.slice A n c, .slice B m d] w fun e w' => e = .returned (.int .i64 (cmpL (keyR a) (keyR b))) ∧ Below w.heap.size w w' := by
  go_enter Tryz.func32, Tryz.ntmps32
  go_wp2_with fail
  refine (compareFunc43 a b A B n c m d w hn hm hsa hsb ha hb).mono ?_
  rintro e w1 ⟨rfl, hbl⟩
  go_wp2
  go_ret
  exact ⟨rfl, hbl⟩
end Go.Proofs.YtpdcbddofekbcaaGreat
namespace Go.Proofs.YtpdcbddofekbcaaGreat
open Go.RowKit
set_option linter.unusedVariables false
/-- draws, and blocks behind all that lay -/
structure Grw (w w' : World) : Prop where
  out : ∃ q os, w' = Sort.grow (w.drewN q) os
theorem Grw.refl (w : World) : Grw w w := ⟨0, #[], by simp [World.drewN]⟩
theorem Grw.alloc {w w' : World} (h : Grw w w') (o : Obj) : Grw w (w'.alloc o) := by
  obtain ⟨q, os, rfl⟩ := h.out
  exact ⟨q, os.push o, by simp [Sort.grow, World.alloc, World.drewN]⟩
theorem Grw.trans {w w' w2 : World} (h : Grw w w') (k : Grw w' w2) : Grw w w2 := by
  obtain ⟨q, os, rfl⟩ := h.out
  obtain ⟨q2, os2, rfl⟩ := k.out
  exact ⟨q + q2, os ++ os2, by simp [Sort.grow, World.drewN, Nat.add_assoc, Array.append_assoc]⟩
theorem Grw.below {w w' : World} (h : Grw w w') : Below w.heap.size w w' := by
  obtain ⟨q, os, rfl⟩ := h.out
  refine ⟨rfl, rfl, rfl, by simp [Sort.grow], fun k hk => ?_⟩
  show (w.heap ++ os)[k]? = _
  rw [Array.getElem?_append_left hk]
set_option maxRecDepth 100000 in
set_option maxHeartbeats 1000000 in
theorem clo44g (x1 x2 y1 y2 : Int) (w : World) (hx : 0 ≤ x1 ∧ x1 ≤ 2000000) (hy : 0 ≤ y1 ∧ y1 ≤ 2000000) : Calls Tryz.prog 63 #[.agg #[.int .i64 x1, .int .i64 x2], .agg #[.int .i64 y1, .int .i64 y2]] w fun e w' => e = .returned (.int .i64 (x1 - y1)) ∧ Grw w w' := by
  obtain ⟨a0, a1⟩ := hx
  obtain ⟨b0, b1⟩ := hy
  go_enter Tryz.func63, Tryz.ntmps63
  go_wp2
  go_ret
  exact ⟨rfl, ((Grw.refl _).alloc _).alloc _⟩
set_option maxRecDepth 100000 in
set_option maxHeartbeats 1000000 in
theorem compareFunc43g (a b : List (Int × Int)) (A B : Option Addr) (n c m d : Nat) (w : World) (hn : n ≤ 1000000) (hm : m ≤ 1000000) (hsa : small a) (hsb : small b) (ha : Rds w w.heap.size 2 A n (rngs a)) (hb : Rds w w.heap.size 2 B m (rngs b)) :
    Calls Tryz.prog 62 #[.slice A n c, .slice B m d, .func (.func 63) #[] #[]] w fun e w' => e = .returned (.int .i64 (cmpL (keyR a) (keyR b))) ∧ Grw w w' := by
  have EG := Lib.hid (show ∀ args w, (callFunc 63 args).run Tryz.prog w = .ok (.enter 63 args) w from enters_of Tryz.func63 (by kernel_rfl) rfl)
  have HLA := Lib.hid ha.rngs_len
  have HLB := Lib.hid hb.rngs_len
  have HA := Lib.hid ha
  have HB := Lib.hid hb
  have HSA := Lib.hid hsa
  have HSB := Lib.hid hsb
  clear ha hb hsa hsb
  go_enter Tryz.func62, Tryz.ntmps62
  go_wp2_with fail
  go_loopw [13] (fun i wr => ∃ k : Nat, i = .int .i64 (k : Int) ∧ k ≤ n ∧ k ≤ m ∧ Hid (cmpL (keyR a) (keyR b) = cmpL (keyR (a.drop k)) (keyR (b.drop k))) ∧ Hid (Grw w wr)) (fun i _ => n - (intOf i).toNat)
  case atStart => exact ⟨0, by go_num, by omega, by omega, Lib.hid rfl, Lib.hid (Grw.refl _)⟩
  case round =>
    obtain ⟨k, rfl, hkn, hkm, HE, HBW⟩ := hrel
    by_cases hlt : k < n
    · have hlt' : (k : Int) < (n : Int) := by omega
      obtain ⟨b1, o1, hl1, hA, hb1, hc1, hd1⟩ := (HA.out.next HBW.out.below).rng_at hlt
      by_cases hmk : k < m
      · have hmk' : ¬ (m : Int) ≤ (k : Int) := by omega
        obtain ⟨b2, o2, hl2, hA2, hb2, hc2, hd2⟩ := (HB.out.next HBW.out.below).rng_at hmk
        have h1 := HSA.out _ (List.getElem_mem hl1)
        have h2 := HSB.out _ (List.getElem_mem hl2)
        have HST := Lib.hid (fun e => (HE.out.trans (cmpL_step hl1 hl2 e)))
        have HNE := Lib.hid (fun e => (HE.out.trans (cmpL_ne hl1 hl2 e)))
        obtain ⟨p, hp⟩ : ∃ p, p = a[k] := ⟨_, rfl⟩
        obtain ⟨q, hq⟩ : ∃ q, q = b[k] := ⟨_, rfl⟩
        rw [← hp] at hc1 hd1 h1 HST HNE
        rw [← hq] at hc2 hd2 h2 HST HNE
        clear hp hq
        obtain ⟨x1, x2⟩ := p
        obtain ⟨y1, y2⟩ := q
        simp only at hc1 hd1 h1 hc2 hd2 h2 HST HNE
        obtain ⟨f0, f1⟩ := h1
        obtain ⟨g0, g1⟩ := h2
        subst hA
        subst hA2
        go_wp2_with fail
        refine (clo44g x1 x2 y1 y2 _ ⟨f0, f1⟩ ⟨g0, g1⟩).mono ?_
        rintro e w1 ⟨rfl, hbl⟩
        have HB2 := Lib.hid (((HBW.out.alloc _).alloc _).trans hbl)
        clear hbl hc1 hd1 hc2 hd2
        by_cases hz : x1 - y1 = 0
        · have HR := Lib.hid (HST.out hz)
          go_wp2_with fail
          exact ⟨⟨k + 1, by go_num, by omega, by omega, HR, HB2⟩, by simp only [intOf]; omega⟩
        · have HR := Lib.hid (HNE.out hz)
          go_wp2
          go_ret
          exact ⟨by rw [HR.out]; rfl, HB2.out⟩
      · have hmk' : (m : Int) ≤ (k : Int) := by omega
        have HR := Lib.hid (HE.out.trans (cmpL_one hl1 (by have := HLB.out; omega)))
        subst hA
        go_wp2
        go_ret
        exact ⟨by rw [HR.out]; rfl, HBW.out.alloc _⟩
    · have hlt' : ¬ (k : Int) < (n : Int) := by omega
      have HR := Lib.hid (HE.out.trans (cmpL_end (by have := HLA.out; omega) (by have := HLB.out; omega)))
      by_cases hmn : n < m
      · have hmn' : (n : Int) < (m : Int) := by omega
        go_wp2
        go_ret
        exact ⟨by rw [HR.out, if_pos (by have := HLB.out; omega)]; rfl, HBW.out⟩
      · have hmn' : ¬ (n : Int) < (m : Int) := by omega
        go_wp2
        go_ret
        exact ⟨by rw [HR.out, if_neg (by have := HLB.out; omega)]; rfl, HBW.out⟩
set_option maxRecDepth 100000 in
set_option maxHeartbeats 1000000 in
theorem compare_23g (a b : List (Int × Int)) (A B : Option Addr) (n c m d : Nat) (w : World) (hn : n ≤ 1000000) (hm : m ≤ 1000000) (hsa : small a) (hsb : small b) (ha : Rds w w.heap.size 2 A n (rngs a)) (hb : Rds w w.heap.size 2 B m (rngs b)) :
    Calls Tryz.prog 32 #[.slice A n c, .slice B m d] w fun e w' => e = .returned (.int .i64 (cmpL (keyR a) (keyR b))) ∧ Grw w w' := by
  go_enter Tryz.func32, Tryz.ntmps32
  go_wp2_with fail
  refine (compareFunc43g a b A B n c m d w hn hm hsa hsb ha hb).mono ?_
  rintro e w1 ⟨rfl, hbl⟩
  go_wp2
  go_ret
  exact ⟨rfl, hbl⟩
end Go.Proofs.YtpdcbddofekbcaaGreat
