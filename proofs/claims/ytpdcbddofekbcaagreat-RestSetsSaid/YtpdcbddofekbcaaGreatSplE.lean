/- The sort of the beginning's two roads, Roads and splitBegun: walked. -/
import Derived.Test.YtpdcbddofekbcaaGreatSplD
import Derived.Test.YtpdcbddofekbcaaGreatSplB
namespace Go.Proofs.YtpdcbddofekbcaaGreat
open Go.RowKit
set_option linter.unusedVariables false
set_option maxRecDepth 100000 in
set_option maxHeartbeats 1000000 in
theorem len64_2 (w : World) : Calls Tryz.prog 86 #[.int .u64 2] w fun e w' => (∃ v, e = .returned (.int .i64 v)) ∧ w = w' := by
  go_enter Tryz.func86, Tryz.ntmps86
  go_wp2
  go_ret
  exact ⟨⟨_, rfl⟩, rfl⟩
set_option maxRecDepth 100000 in
set_option maxHeartbeats 1000000 in
theorem len_2 (w : World) : Calls Tryz.prog 61 #[.int .u64 2] w fun e w' => (∃ v, e = .returned (.int .i64 v)) ∧ w = w' := by
  go_enter Tryz.func61, Tryz.ntmps61
  go_wp2_with fail
  refine (len64_2 w).mono ?_
  rintro e w' ⟨⟨v, rfl⟩, rfl⟩
  go_wp2
  go_ret
  exact ⟨⟨_, rfl⟩, rfl⟩
set_option maxHeartbeats 1000000 in
theorem clo130 (x y u v : Int) (w : World) (hx : 0 ≤ x ∧ x ≤ 1114111) (hu : 0 ≤ u ∧ u ≤ 1114111) :
    Calls Tryz.prog 63 #[.agg #[.int .i64 x, .int .i64 y], .agg #[.int .i64 u, .int .i64 v]] w fun e w' => e = .returned (.int .i64 (x - u)) ∧ Below w.heap.size w w' := by
  obtain ⟨x0, x1⟩ := hx
  obtain ⟨u0, u1⟩ := hu
  have hb := Lib.hid (show Below w.heap.size w ((w.alloc (.cells #[.int .i64 x, .int .i64 y] 25)).alloc (.cells #[.int .i64 u, .int .i64 v] 25)) by go_grown)
  go_enter Tryz.func63, Tryz.ntmps63
  go_wp2
  go_ret
  exact ⟨rfl, hb.out⟩
set_option maxRecDepth 100000 in
set_option maxHeartbeats 1000000 in
theorem cmp129 (A B : Option Addr) (n c m d : Nat) (w : World) (hn : n = 2) (hm : m = 1) (ha : Rds w w.heap.size 2 A n (rngs [(195, 195), (169, 169)])) (hb : Rds w w.heap.size 2 B m (rngs [(65, 66)])) :
    Calls Tryz.prog 62 #[.slice A n c, .slice B m d, .func (.func 63) #[] #[]] w fun e w' => e = .returned (.int .i64 130) ∧ Below w.heap.size w w' := by
  subst hn hm
  have EG := Lib.hid (show ∀ args w, (callFunc 63 args).run Tryz.prog w = .ok (.enter 63 args) w from enters_of Tryz.func63 (by kernel_rfl) rfl)
  have eg := EG.out
  obtain ⟨b1, o1, _, hA, hb1, hc1, hd1⟩ := ha.rng_at (k := 0) (by decide)
  obtain ⟨b2, o2, _, hB, hb2, hc2, hd2⟩ := hb.rng_at (k := 0) (by decide)
  subst hA hB
  simp only [Nat.zero_mul, Nat.add_zero, List.getElem_cons_zero] at hc1 hd1 hc2 hd2
  go_enter Tryz.func62, Tryz.ntmps62
  go_wp2_with fail
  go_loopw [13] (fun i wr => i = .int .i64 0 ∧ wr = w) (fun _ _ => 0)
  case atStart => exact ⟨rfl, rfl⟩
  case round =>
    obtain ⟨rfl, rfl⟩ := hrel
    have h1 : (wr.alloc (.cells #[.int .i64 195, .int .i64 195] 25)).heap.size = wr.heap.size + 1 := by simp
    have hc2' : (wr.alloc (.cells #[.int .i64 195, .int .i64 195] 25)).cell? ⟨b2, o2, none⟩ = some (.int .i64 65) := by rw [World.cell?_alloc_lt _ _ ⟨b2, o2, none⟩ hb2]; exact hc2
    have hd2' : (wr.alloc (.cells #[.int .i64 195, .int .i64 195] 25)).cell? ⟨b2, o2 + 1, none⟩ = some (.int .i64 66) := by rw [World.cell?_alloc_lt _ _ ⟨b2, o2 + 1, none⟩ hb2]; exact hd2
    go_wp2_with fail
    refine (clo130 195 195 65 66 _ (by decide) (by decide)).mono ?_
    rintro e w1 ⟨rfl, hb⟩
    have B0 : Below wr.heap.size wr ((wr.alloc (.cells #[.int .i64 195, .int .i64 195] 25)).alloc (.cells #[.int .i64 65, .int .i64 66] 25)) := by go_grown
    have B1 := Lib.hid (below_next B0 hb)
    clear B0 hb
    go_wp2
    go_ret
    exact ⟨rfl, B1.out⟩
set_option maxRecDepth 100000 in
set_option maxHeartbeats 1000000 in
theorem compare95 (A B : Option Addr) (n c m d : Nat) (w : World) (hn : n = 2) (hm : m = 1) (ha : Rds w w.heap.size 2 A n (rngs [(195, 195), (169, 169)])) (hb : Rds w w.heap.size 2 B m (rngs [(65, 66)])) :
    Calls Tryz.prog 32 #[.slice A n c, .slice B m d] w fun e w' => e = .returned (.int .i64 130) ∧ Below w.heap.size w w' := by
  have C := Lib.hid (cmp129 A B n c m d w hn hm ha hb)
  subst hn hm
  clear ha hb
  go_enter Tryz.func32, Tryz.ntmps32
  go_wp2_with fail
  refine C.out.mono ?_
  rintro e w1 ⟨rfl, hb⟩
  go_wp2
  go_ret
  exact ⟨rfl, hb⟩
set_option maxRecDepth 100000 in
set_option maxHeartbeats 2000000 in
theorem ins146 (A : Option Addr) (c : Nat) (vs : List Value) (w : World) (hv : Rds w w.heap.size 1 A 2 vs) (hs : Sls w w.heap.size vs [[(65, 66)], [(195, 195), (169, 169)]]) :
    Calls Tryz.prog 77 #[.slice A 2 c, .int .i64 0, .int .i64 2, .func (.func 32) #[] #[]] w fun e w' => e = .returned (.tuple #[]) ∧ Below w.heap.size w w' := by
  obtain ⟨b1, o1, hl0, hA, hb1, hc1⟩ := hv.at1 (k := 0) (by decide)
  obtain ⟨b1', o1', hl1, hA', hb1', hc2⟩ := hv.at1 (k := 1) (by decide)
  subst hA
  injection hA' with hA'
  injection hA' with e1 e2
  subst e1 e2
  obtain ⟨_, A1, n1, c1, v1, q1, q2, r1⟩ := hs.at2 hl0
  obtain ⟨_, A2, n2, c2, v2, q3, q4, r2⟩ := hs.at2 hl1
  rw [v1] at hc1
  rw [v2] at hc2
  simp only [List.getElem_cons_zero, List.getElem_cons_succ] at r1 r2
  have hn1 : n1 = 1 := by have := r1.rngs_len; simp at this; omega
  have hn2 : n2 = 2 := by have := r2.rngs_len; simp at this; omega
  subst hn1 hn2
  simp only [Nat.add_zero] at hc1
  have EG := Lib.hid (show ∀ args w, (callFunc 32 args).run Tryz.prog w = .ok (.enter 32 args) w from enters_of Tryz.func32 (by kernel_rfl) rfl)
  have C := Lib.hid (fun (w' : World) (hb : Below w.heap.size w w') => compare95 A2 A1 2 c2 1 c1 w' rfl rfl ((r2.below hb (Nat.le_refl _)).more hb.size) ((r1.below hb (Nat.le_refl _)).more hb.size))
  have C1 : Hid (∀ (w' : World), Below w.heap.size w w' → Calls Tryz.prog 32 #[.slice A2 2 c2, .slice A1 1 c1] w' fun e w'' => e = .returned (.int .i64 130) ∧ Hid (Below w.heap.size w w'')) := Lib.hid (fun w' hb => (C.out w' hb).mono fun e w'' h => ⟨h.1, Lib.hid (hb.trans (h.2.mono hb.size))⟩)
  have K1 := Lib.hid hc1
  have K2 := Lib.hid hc2
  have KP := Lib.hid (fun (w' : World) (hw : Below w.heap.size w w') => show Below w.heap.size w w' ∧ w'.cell? ⟨b1, o1, none⟩ = some (.slice A1 1 c1) ∧ w'.cell? ⟨b1, o1 + 1, none⟩ = some (.slice A2 2 c2) from
    ⟨hw, by rw [hw.cell (p := ⟨b1, o1, none⟩) hb1]; exact K1.out, by rw [hw.cell (p := ⟨b1, o1 + 1, none⟩) hb1]; exact K2.out⟩)
  clear hv hs v1 v2 r1 r2 hb1'
  go_enter Tryz.func77, Tryz.ntmps77
  go_wp2_with fail
  go_loopw [8] (fun i wr => (i = .int .i64 1 ∧ wr = w) ∨ (i = .int .i64 2 ∧ Below w.heap.size w wr)) (fun i _ => 2 - (intOf i).toNat)
  case atStart => exact .inl ⟨rfl, rfl⟩
  case round =>
    rcases hrel with ⟨rfl, rfl⟩ | ⟨rfl, hB⟩
    · obtain ⟨W0, rfl⟩ : ∃ x, x = wr := ⟨_, rfl⟩
      go_wp2_with fail
      go_loopw [9] (fun i wr => i = .int .i64 1 ∧ wr = W0) (fun _ _ => 0)
      case atStart => exact ⟨rfl, rfl⟩
      case round =>
        obtain ⟨rfl, hwr⟩ := hrel
        obtain ⟨wz, hwz⟩ : ∃ wz, wz = wr := ⟨_, rfl⟩
        rw [← hwz] at hwr ⊢
        clear hwz
        subst hwr
        have hw1 : IntKind.i64.wrap (1 - 1 : Int) = 0 := by decide
        have hw0 : IntKind.i64.wrap (0 : Int) = 0 := by decide
        go_wp2_with fail
        go_region_held3 (fun w' => Below wz.heap.size wz w' ∧ w'.cell? ⟨b1, o1, none⟩ = some (.slice A1 1 c1) ∧ w'.cell? ⟨b1, o1 + 1, none⟩ = some (.slice A2 2 c2))
          (first
            | (exact KP.out _ (below_drewN (Below.refl _ _) 1))
            | (exact KP.out _ (hby.out))
            | (go_split_ands; exact KP.out _ (below_drewN hby.out 1))
            | go_keep)
          (first
            | (go_split_ands; go_at_call 32; refine (C1.out _ (by assumption)).mono ?_; rintro e w1 ⟨rfl, hby⟩))
        clear hw1 hw0
        go_wp2
        go_roundw
        case rel => exact .inr ⟨by go_num, hby.out⟩
        case measure => simp [intOf]
    · go_wp2
      go_end0
      exact ⟨rfl, hB⟩
def begR : List (List (Int × Int)) := [[(65, 66)], [(195, 195), (169, 169)]]
set_option maxRecDepth 100000 in
set_option maxHeartbeats 2000000 in
theorem pdq127 (A : Option Addr) (c : Nat) (lim : Int) (vs : List Value) (w : World) (hv : Rds w w.heap.size 1 A 2 vs) (hs : Sls w w.heap.size vs begR) :
    Calls Tryz.prog 60 #[.slice A 2 c, .int .i64 0, .int .i64 2, .int .i64 lim, .func (.func 32) #[] #[]] w fun e w' => e = .returned (.tuple #[]) ∧ Below w.heap.size w w' := by
  have C := Lib.hid (ins146 A c vs w hv hs)
  clear hv hs
  go_enter Tryz.func60, Tryz.ntmps60
  go_wp2_with fail
  go_loopw [1, 2] (fun a b wr => a = .int .i64 0 ∧ b = .int .i64 2 ∧ wr = w) (fun _ _ _ => 0)
  case atStart => exact ⟨rfl, rfl, rfl⟩
  case round =>
    obtain ⟨rfl, rfl, rfl⟩ := hrel
    go_wp2_with fail
    refine C.out.mono ?_
    rintro e w1 ⟨rfl, hb⟩
    go_wp2
    (try simp only [Exit.inBlock, Exit.then])
    refine bodyPost_ret (results_none rfl _ _ _) rfl ?_
    exact ⟨rfl, hb⟩
set_option maxRecDepth 100000 in
set_option maxHeartbeats 2000000 in
theorem sort94 (A : Option Addr) (c : Nat) (vs : List Value) (w : World) (hv : Rds w w.heap.size 1 A 2 vs) (hs : Sls w w.heap.size vs begR) :
    Calls Tryz.prog 31 #[.slice A 2 c, .func (.func 32) #[] #[]] w fun e w' => e = .returned (.tuple #[]) ∧ Below w.heap.size w w' := by
  have C := Lib.hid (fun l => pdq127 A c l vs w hv hs)
  clear hv hs
  go_enter Tryz.func31, Tryz.ntmps31
  go_wp2_with fail
  refine (len_2 w).mono ?_
  rintro e w' ⟨⟨v, rfl⟩, rfl⟩
  go_wp2_with fail
  refine (C.out v).mono ?_
  rintro e w1 ⟨rfl, hb⟩
  go_wp2
  go_end0
  exact ⟨rfl, hb⟩
theorem begS_chk : chk begS = 0 := by decide
set_option maxRecDepth 100000 in
set_option maxHeartbeats 2000000 in
theorem roads47_beg (A : Option Addr) (n c : Nat) (w : World) (hnc : n ≤ c) (hc : c ≤ maxLen) (hn : n ≤ 1000) (ha : Rds w w.heap.size 2 A n (rngs begS)) :
    Calls Tryz.prog 10 #[.int .i64 1, .slice A n c] w fun e w' => ∃ A2 c2 vs, e = .returned (.tuple #[.slice A2 2 c2, .int .i64 0]) ∧ 2 ≤ c2 ∧ c2 ≤ maxLen ∧ Hid (Rds w' w'.heap.size 1 A2 2 vs) ∧ Hid (Sls w' w'.heap.size vs begR) ∧ Below w.heap.size w w' := by
  have C1 := Lib.hid (check18 begS A n c w hnc hc ha)
  rw [begS_chk] at C1
  have HA := Lib.hid ha
  clear ha
  go_enter Tryz.func10, Tryz.ntmps10
  go_wp2_with fail
  refine C1.out.mono ?_
  rintro e w1 ⟨rfl, hb1⟩
  have R1 := Lib.hid (HA.out.next hb1)
  go_wp2_with fail
  refine (utf8_91 A n c w1 (by omega) R1.out).mono ?_
  rintro e w2 ⟨A2, n2, c2, vs, rfl, h1, h2, h3, h4, h6⟩
  have hn2 : n2 = 2 := by have a := h3.out.1; rw [h4.out.1] at a; simp at a; omega
  subst hn2
  have b2 := below_next hb1 h6
  clear hb1 h6
  go_wp2_with fail
  refine (sort94 A2 c2 vs w2 (Rds.of_own h3.out) h4.out.sls).mono ?_
  rintro e w3 ⟨rfl, hb3⟩
  have R3 := Lib.hid ((Rds.of_own h3.out).next hb3)
  have S3 := Lib.hid ((h4.out.below hb3).sls)
  have b3 := below_next b2 hb3
  clear h3 h4 b2 hb3
  go_wp2
  go_ret2
  exact ⟨A2, c2, vs, rfl, h1, h2, R3, S3, b3⟩
theorem beg_along : alE 1 begR ⟨#[120, 195, 169]⟩ 1 = 0 ∧ alN 1 begR ⟨#[120, 195, 169]⟩ 1 = 2 := by decide +kernel
set_option maxRecDepth 100000 in
set_option maxHeartbeats 2000000 in
theorem splitBegun49 (w : World) : Calls Tryz.prog 5 #[] w fun e w' => e = .returned (.bool true) ∧ Below w.heap.size w w' := by
  have hb0 : Below w.heap.size w (w.alloc (.cells #[.int .i64 65, .int .i64 66, .int .i64 233, .int .i64 233] 25)) := by go_grown
  have R := Lib.hid ((Rds.new w 2 2 #[.int .i64 65, .int .i64 66, .int .i64 233, .int .i64 233] 25 (rngs begS) rfl rfl).more (B' := (w.alloc (.cells #[.int .i64 65, .int .i64 66, .int .i64 233, .int .i64 233] 25)).heap.size) (by simp))
  have HB0 := Lib.hid hb0
  clear hb0
  go_enter Tryz.func5, Tryz.ntmps5
  go_wp2_with fail
  refine (roads47_beg _ 2 2 _ (by decide) (by decide) (by decide) R.out).mono ?_
  rintro e w1 ⟨A2, c2, vs, rfl, h1, h2, R1, S1, hb1⟩
  have b1 := below_next HB0.out hb1
  clear hb1
  go_wp2_with fail
  refine (along55 1 begR vs ⟨#[120, 195, 169]⟩ 1 A2 2 c2 w1 (by decide) R1.out S1.out).mono ?_
  rintro e w2 ⟨rfl, hb2⟩
  rw [beg_along.1, beg_along.2]
  have b2 := below_next b1 hb2
  go_wp2
  go_ret
  exact ⟨rfl, b2⟩
end Go.Proofs.YtpdcbddofekbcaaGreat
