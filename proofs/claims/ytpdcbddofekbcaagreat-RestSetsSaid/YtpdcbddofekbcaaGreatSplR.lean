/- roads of the program, of one and of two bytes: walked. -/
import Derived.Test.YtpdcbddofekbcaaGreatGT
namespace Go.Proofs.YtpdcbddofekbcaaGreat
open Go.RowKit
set_option linter.unusedVariables false
set_option maxRecDepth 100000 in
set_option maxHeartbeats 1000000 in
theorem roads_1 (a b : Int) (w : World) (h0 : 0 ≤ a) (h1 : a ≤ b) (h2 : b ≤ 255) : Calls Tryz.prog 58 #[.int .i64 a, .int .i64 b, .int .i64 1] w (RoadsP w fun ls => RC ls (ENum 256 0 0 0 a b) 1 (b - a + 1)) := by
  have H := Lib.hid (road_one w a b)
  have HC := Lib.hid (RC.one 256 0 0 (a := a) (b := b) (by omega) (by omega) (by omega))
  rw [Int.zero_add, Int.zero_add] at HC
  go_enter Tryz.func58, Tryz.ntmps58
  go_wp2
  go_ret
  exact ⟨_, HC, H.out⟩
theorem roads_call (wr w' : World) (h2 : Below wr.heap.size wr w') (c d : Int) (hc : 0 ≤ c) (hcd : c ≤ d) (hd : d < 256) :
    Calls Tryz.prog 58 #[.int .i64 c, .int .i64 d, .int .i64 1] w' fun e w1 =>
    ∃ A m k vs ls, e = .returned (.slice A m k) ∧ Hid (RC ls (ENum 256 0 0 0 c d) 1 (d - c + 1)) ∧ Hid (Mid w1 wr.heap.size w1.heap.size A m k vs ls) ∧ Hid (Below wr.heap.size wr w1) := by
  refine (roads_1 c d w' hc hcd (by omega)).mono ?_
  rintro e w1 ⟨ls, hp, A, m, k, vs, rfl, _, _, k1, k2, k3⟩
  refine ⟨A, m, k, vs, ls, rfl, hp, Lib.hid ⟨own_mono k1.out h2.size, k2.out.mono h2.size, fun g hg => (k1.out.lt g hg).2, Nat.le_refl _⟩, Lib.hid (h2.trans (k3.mono h2.size))⟩
set_option maxRecDepth 100000 in
set_option maxHeartbeats 2000000 in
theorem roads_2 (a b : Int) (w : World) (ha : 0 ≤ a) (hab : a ≤ b) (hb : b ≤ 65535) :
    Calls Tryz.prog 58 #[.int .i64 a, .int .i64 b, .int .i64 2] w (RoadsP w fun ls => RC ls (ENum 256 0 0 1 a b) 2 (b - a + 1)) := by
  have EG := Lib.hid (show ∀ args w, (callFunc 58 args).run Tryz.prog w = .ok (.enter 58 args) w from enters_of Tryz.func58 (by kernel_rfl) rfl)
  have hmk : ∀ w : World, (Instr.makeSlice 22 (.int .i64 0) (.int .i64 2)).run Tryz.prog w = .ok (.slice (some ⟨w.heap.size, 0, none⟩) 0 2) (w.alloc (.cells #[.int .i64 0, .int .i64 0, .int .i64 0, .int .i64 0] 25)) := fun _ => by kernel_rfl
  go_enter Tryz.func58, Tryz.ntmps58
  go_wp2_with fail
  go_loopw [8, 9] (fun o i wr => ∃ x : Int, ∃ ls, i = .int .i64 x ∧ a ≤ x ∧ x ≤ b + 1 ∧ Hid (RC ls (ENum 256 0 0 1 a (x - 1)) 2 (x - a)) ∧ Hid (RoadsVal w wr ls o)) (fun _ i _ => (b + 1 - intOf i).toNat)
  case atStart => exact ⟨a, [], by go_num, by omega, by omega, Lib.hid (by rw [show a - a = (0 : Int) by omega]; exact RC.nil 256 0 2 (by omega)), Lib.hid (RoadsVal.nil w)⟩
  case round =>
    obtain ⟨x, ls, rfl, hx0, hx1, HRC, HV⟩ := hrel
    have hx00 : 0 ≤ x := by omega
    by_cases hxb : x ≤ b
    · obtain ⟨y, HY⟩ : ∃ y, (if x / 256 * 256 + 256 - 1 < b then x / 256 * 256 + 256 - 1 else b) = y := ⟨_, rfl⟩
      have hy0 : x ≤ y ∧ y ≤ b ∧ y / 256 = x / 256 := by split at HY <;> omega
      obtain ⟨hy0, hy1, hy2⟩ := hy0
      have HVB := Lib.hid (show Below w.heap.size w wr by obtain ⟨_, _, _, _, _, _, _, _, _, h⟩ := HV.out; exact h)
      have HY2 : y % 256 = 255 ∨ y = b := by split at HY <;> omega
      by_cases hcx : x % 256 = 0
      · go_wp2_with fail
        go_loopw [11] (fun v w2 => ∃ z : Int, v = .int .i64 z ∧ y ≤ z ∧ z ≤ b ∧ (z - y) % 256 = 0 ∧ w2 = wr) (fun v _ => (b - intOf v).toNat)
        case atStart => exact ⟨y, by go_num, by omega, by omega, by omega, by first | rfl | trivial⟩
        case round =>
          obtain ⟨z, rfl, hz0, hz1, hz2, rfl⟩ := hrel
          by_cases hzb : z + 256 ≤ b
          · go_wp2
            go_roundw
            case rel => exact ⟨z + 256, by go_num, by omega, by omega, by omega, by first | rfl | trivial⟩
            case measure => simp only [intOf]; omega
          · by_cases hz3 : z % 256 = 255
            · obtain ⟨W0, hW0⟩ : ∃ W0, W0 = wr := ⟨_, rfl⟩
              rw [← hW0] at HV HVB ⊢
              clear hW0
              have HR0 := Lib.hid (show ((W0.alloc (.cells #[.int .i64 (x / 256), .int .i64 (z / 256), .int .i64 0, .int .i64 0] 25)).alloc (.cells #[.int .i64 (x / 256), .int .i64 (z / 256)] 25)).ownsRow W0.heap.size 25 2 (.slice (some ⟨W0.heap.size, 0, none⟩) 1 2) 1 (rngs [(x / 256, z / 256)]) from
                World.ownsRow.alloc ⟨rfl, .inr ⟨W0.heap.size, 2, #[.int .i64 (x / 256), .int .i64 (z / 256), .int .i64 0, .int .i64 0], rfl, Nat.le_refl _, heap_alloc_new W0 _, by decide, by decide, rfl, rfl⟩⟩ _)
              have HB0 := Lib.hid (show Below W0.heap.size W0 ((W0.alloc (.cells #[.int .i64 (x / 256), .int .i64 (z / 256), .int .i64 0, .int .i64 0] 25)).alloc (.cells #[.int .i64 (x / 256), .int .i64 (z / 256)] 25)) by go_grown)
              go_wp2_with fail
              go_loopw [12, 71] (fun r i w3 => ∃ j : Nat, i = .int .i64 (j : Int) ∧ j ≤ 1 ∧ Hid (w3.ownsRow W0.heap.size 25 2 r (j + 1) (rngs ((x / 256, z / 256) :: List.replicate j (0, 255)))) ∧ Hid (Below W0.heap.size W0 w3)) (fun _ i _ => (2 - intOf i).toNat)
              case atStart => exact ⟨0, by go_num, by omega, HR0, HB0⟩
              case round =>
                obtain ⟨j, rfl, hj, HR, HB⟩ := hrel
                obtain ⟨A3, c3, hv3, q3, q4⟩ := own_slice HR.out
                subst hv3
                by_cases hj1 : j < 1
                · go_wp2_with (at_builtin; refine app_rngs (.tmp 73) (.tmp 75) (base := W0.heap.size) (xs := (x / 256, z / 256) :: List.replicate j (0, 255)) (ys := [(0, 255)]) (n := j + 1) (HR.out.alloc _) (Rds.new wr 2 1 #[.int .i64 0, .int .i64 255] 25 (rngs [(0, 255)]) rfl rfl) (by omega) (by have := HB.out.size; simp; omega) rfl rfl rfl rfl ?_; intro v3 w4 hown3 hg3 hat3)
                  have HR4 := Lib.hid (show w4.ownsRow W0.heap.size 25 2 v3 (j + 1 + 1) (rngs ((x / 256, z / 256) :: List.replicate (j + 1) (0, 255))) by rw [List.replicate_succ']; exact hown3)
                  have HB4 := Lib.hid (show Below W0.heap.size W0 w4 from grown_own (HB.out.alloc HB.out.size _) (HR.out.alloc _) hg3 (Nat.le_refl _) (by have := HB.out.size; simp; omega))
                  clear hown3 hg3
                  go_roundw
                  case rel => exact ⟨j + 1, by go_num, by omega, HR4, HB4⟩
                  case measure => simp only [intOf]; omega
                · have hj2 : j = 1 := by omega
                  subst hj2
                  have HV0 : w.heap.size ≤ W0.heap.size := HVB.out.size
                  obtain ⟨A, n, c, vs, rfl, k1, k2, k30, k40, k50⟩ := HV.out
                  have k3 := Lib.hid (own_below k30.out HB.out (Nat.le_refl _))
                  have k4 := Lib.hid (k40.out.below HB.out)
                  have k5 := k50.trans (HB.out.mono k50.size)
                  have HF := Lib.hid (k40.out.fresh HR.out)
                  clear k30 k40 k50
                  have hn : n = ls.length := own_count k3.out k4.out
                  have hlen := HRC.out.len
                  go_wp2_with (at_builtin; first
                    | (refine app_roads (.tmp 78) (.tmp 80) (base := w.heap.size) (xs := vs) (n := n) (k3.out.alloc _) (Rds.new wr 1 1 #[.slice A3 (1 + 1) c3] 22 [.slice A3 (1 + 1) c3] rfl rfl) (by simp [Value.oneCell']) (by omega) (by have := k5.size; simp; omega) rfl rfl rfl rfl ?_; intro v4 w4 hown4 hg4 hat4))
                  refine ⟨⟨z + 1, ls ++ [(x / 256, z / 256) :: List.replicate 1 (0, 255)], rfl, by omega, by omega, Lib.hid ?_, Lib.hid ?_⟩, by simp only [intOf]; omega⟩
                  · have h1 := RC.whole (B := 256) (m := 0) (mk := 0) (n := 0) (a := x) (b := z) (by decide) (by decide) (by decide) (by omega) hcx hz3 (by show 0 ≤ 0 + x / 256; omega) (by show 0 + z / 256 ≤ 255; omega)
                    rw [show (0 : Int) + x / 256 ^ (0 + 1) = x / 256 from Int.zero_add _, show (0 : Int) + z / 256 ^ (0 + 1) = z / 256 from Int.zero_add _] at h1
                    have h2 := RC.more (by decide) HRC.out h1 hx0 (by omega)
                    rw [show z + 1 - 1 = z by omega]
                    exact h2
                  · exact RoadsVal.push (k3.out.alloc _) (k4.out.alloc _) (k5.alloc k5.size _) ((own_mono HR.out HV0).alloc _) hown4 hg4 HF.out
            · have hyb : y = b := by omega
              have hbx : b / 256 = x / 256 := by omega
              have htx : x.tmod 256 = x % 256 := Int.tmod_eq_emod_of_nonneg hx00
              have htb : b.tmod 256 = b % 256 := Int.tmod_eq_emod_of_nonneg (by omega)
              go_wp2_with fail
              clear hcx
              go_region_held3 (fun w' => Below wr.heap.size wr w')
                (first
                  | (exact below_drewN (Below.refl _ _) 1)
                  | (exact hby.out)
                  | (exact below_drewN hby.out 1)
                  | go_keep)
                (first
                  | (go_at_call 58; refine (roads_call wr _ (by assumption) (x % 256) (b % 256) (by omega) (by omega) (by omega)).mono ?_; rintro e w1 ⟨A2, m2, k2, vs2, ls2, rfl, HRC2, HM2, hby⟩))
              obtain ⟨W0, hW0⟩ : ∃ W0, W0 = wr := ⟨_, rfl⟩
              rw [← hW0] at HV HM2 hby HVB
              clear hW0
              have HML := Lib.hid (own_count HM2.out.1 HM2.out.2.1)
              have hlen2 := HRC2.out.len
              have hlen1 := HRC.out.len
              have hsh2 := Lib.hid HRC2.out.shape
              have HO0 := Lib.hid (show ∀ g, u8.ownBlock = some g → g < W0.heap.size ∨ w1.heap.size ≤ g from fun g hg => by
                obtain ⟨A, n, c, vs, e, _, _, k3, _⟩ := HV.out
                subst e
                exact .inl (k3.out.lt g hg).2)
              have HV1 := Lib.hid (HV.out.next hby.out)
              have hw0 : w.heap.size ≤ W0.heap.size := HVB.out.size
              have hw1 : W0.heap.size ≤ w1.heap.size := hby.out.size
              go_wp2_with fail
              go_loopw [8, 102] (fun o i w3 => ∃ j : Nat, i = .int .i64 (j : Int) ∧ j ≤ m2 ∧ Hid (RoadsVal w w3 (ls ++ preT (x / 256) ls2 j) o) ∧ Hid (∀ g, o.ownBlock = some g → g < W0.heap.size ∨ w1.heap.size ≤ g) ∧ Hid (Mid w3 W0.heap.size w1.heap.size A2 m2 k2 vs2 ls2)) (fun _ i _ => (m2 - intOf i).toNat)
              case atStart => exact ⟨0, by go_num, by omega, Lib.hid (by rw [preT_zero, List.append_nil]; exact HV1.out), HO0, HM2⟩
              case round =>
                obtain ⟨j, rfl, hj, HVo, HOB, HMd⟩ := hrel
                by_cases hjm : j < m2
                · obtain ⟨A, n, c, vs, rfl, k1, k2', k3, k4, k5⟩ := HVo.out
                  obtain ⟨b1, off1, hl1, hA, hb1, hc1⟩ := (Rds.of_own HMd.out.1).at1 hjm
                  obtain ⟨hl2, A5, n5, c5, hvk, hnc5, hc5m, hr5⟩ := HMd.out.2.1.sls.at2 hl1
                  have hn5 : n5 ≤ 4 := by have h1 := hr5.rngs_len; have h2 := (hsh2.out _ (List.getElem_mem hl2)).1; omega
                  have hn : n = (ls ++ preT (x / 256) ls2 j).length := own_count k3.out k4.out
                  have hn2 : n ≤ ls.length + ls2.length := by have := preT_len (x / 256) ls2 j; rw [hn, List.length_append]; omega
                  have HR5 := Lib.hid hr5
                  rw [hvk] at hc1
                  subst hA
                  clear hvk hn hr5
                  have hjm' : (j : Int) < (m2 : Int) := by omega
                  have HN := Lib.hid (own_new wr wr.heap.size 25 2 1 #[.int .i64 (x / 256), .int .i64 (x / 256)] (Nat.le_refl _) rfl (by decide))
                  go_wp2_with (at_builtin; first
                    | (refine app_rngs (.tmp 110) (.tmp 111) (base := wr.heap.size) (xs := [(x / 256, x / 256)]) (n := 1) HN.out (HR5.out.alloc (Nat.le_refl _) _) (by omega) (by simp) rfl rfl rfl rfl ?_; intro v3 w3 hown3 hg3 hat3; obtain ⟨A3, c3, hv3, q3, q4⟩ := own_slice hown3; subst hv3)
                    | (refine app_roads (.tmp 106) (.tmp 113) (base := w.heap.size) (xs := vs) (n := n) (own_below k3.out (below_two HN.out hg3 _) (Nat.le_refl _)) (Rds.new w3 1 1 #[.slice A3 (1 + n5) c3] 22 [.slice A3 (1 + n5) c3] rfl rfl) (by simp [Value.oneCell']) (by omega) (by have h := hg3.size; have h2 := k5.size; simp at h ⊢; omega) rfl rfl rfl rfl ?_; intro v4 w4 hown4 hg4 hat4))
                  have BB := below_two HN.out hg3 (.cells #[.slice A3 (1 + n5) c3] 22)
                  have K3 := own_below k3.out BB (Nat.le_refl _)
                  have HM5 := HMd.out.below BB
                  have HV4 := Lib.hid (show RoadsVal w w4 (ls ++ preT (x / 256) ls2 (j + 1)) v4 by
                    rw [← preT_succ _ _ hl2, ← List.append_assoc]
                    exact RoadsVal.push K3 (k4.out.below BB) (k5.trans (BB.mono k5.size)) ((own_mono hown3 k5.size).alloc _) hown4 hg4 (k4.out.fresh hown3))
                  have HM4 := Lib.hid (HM5.kept K3 hg4 HOB.out)
                  have HO4 := Lib.hid (show ∀ g, v4.ownBlock = some g → g < W0.heap.size ∨ w1.heap.size ≤ g from fun g hg => by
                    rcases hat4 with h | h
                    · exact HOB.out g (by rw [← h]; exact hg)
                    · rw [h] at hg
                      injection hg with hg
                      exact .inr (by rw [← hg]; exact HM5.2.2.2))
                  clear BB K3 HM5 hown3 hg3 hat3 hown4 hg4 hat4
                  go_roundw
                  case rel => exact ⟨v4, _, _, ⟨j + 1, rfl, by omega, HV4, HO4, HM4⟩, rfl, rfl, by decide, by go_num⟩
                  case measure => simp only [intOf]; omega
                · have hjm' : ¬ (j : Int) < (m2 : Int) := by omega
                  have HJ := Lib.hid (preT_all (x / 256) ls2 (j := j) (by have := HML.out; omega))
                  go_wp2_with fail
                  refine ⟨⟨b + 1, ls ++ preT (x / 256) ls2 j, rfl, by omega, by omega, Lib.hid ?_, HVo⟩, by simp only [intOf]; omega⟩
                  have h1 := RC.part (B := 256) (m := 0) (mk := 0) (n := 0) (a := x) (b := b) (by decide) (by show x / 256 = b / 256; omega) (by show 0 ≤ 0 + x / 256; omega) (by show 0 + x / 256 ≤ 255; omega) HRC2.out
                  have h2 := RC.more (by decide) HRC.out h1 hx0 (by omega)
                  rw [show b + 1 - 1 = b by omega, HJ.out]
                  rw [show (0 : Int) + x / 256 ^ (0 + 1) = x / 256 from Int.zero_add _] at h2
                  exact h2
      · have htx : x.tmod 256 = x % 256 := Int.tmod_eq_emod_of_nonneg hx00
        have hty : y.tmod 256 = y % 256 := Int.tmod_eq_emod_of_nonneg (by omega)
        go_wp2_with fail
        go_region_held3 (fun w' => Below wr.heap.size wr w')
          (first
            | (exact below_drewN (Below.refl _ _) 1)
            | (exact hby.out)
            | (exact below_drewN hby.out 1)
            | go_keep)
          (first
            | (go_at_call 58; refine (roads_call wr _ (by assumption) (x % 256) (y % 256) (by omega) (by omega) (by omega)).mono ?_; rintro e w1 ⟨A2, m2, k2, vs2, ls2, rfl, HRC2, HM2, hby⟩))
        obtain ⟨W0, hW0⟩ : ∃ W0, W0 = wr := ⟨_, rfl⟩
        rw [← hW0] at HV HM2 hby HVB
        clear hW0
        have HML := Lib.hid (own_count HM2.out.1 HM2.out.2.1)
        have hlen2 := HRC2.out.len
        have hlen1 := HRC.out.len
        have hsh2 := Lib.hid HRC2.out.shape
        have HO0 := Lib.hid (show ∀ g, u8.ownBlock = some g → g < W0.heap.size ∨ w1.heap.size ≤ g from fun g hg => by
          obtain ⟨A, n, c, vs, e, _, _, k3, _⟩ := HV.out
          subst e
          exact .inl (k3.out.lt g hg).2)
        have HV1 := Lib.hid (HV.out.next hby.out)
        have hw0 : w.heap.size ≤ W0.heap.size := HVB.out.size
        have hw1 : W0.heap.size ≤ w1.heap.size := hby.out.size
        go_wp2_with fail
        go_loopw [8, 102] (fun o i w3 => ∃ j : Nat, i = .int .i64 (j : Int) ∧ j ≤ m2 ∧ Hid (RoadsVal w w3 (ls ++ preT (x / 256) ls2 j) o) ∧ Hid (∀ g, o.ownBlock = some g → g < W0.heap.size ∨ w1.heap.size ≤ g) ∧ Hid (Mid w3 W0.heap.size w1.heap.size A2 m2 k2 vs2 ls2)) (fun _ i _ => (m2 - intOf i).toNat)
        case atStart => exact ⟨0, by go_num, by omega, Lib.hid (by rw [preT_zero, List.append_nil]; exact HV1.out), HO0, HM2⟩
        case round =>
          obtain ⟨j, rfl, hj, HVo, HOB, HMd⟩ := hrel
          by_cases hjm : j < m2
          · obtain ⟨A, n, c, vs, rfl, k1, k2', k3, k4, k5⟩ := HVo.out
            obtain ⟨b1, off1, hl1, hA, hb1, hc1⟩ := (Rds.of_own HMd.out.1).at1 hjm
            obtain ⟨hl2, A5, n5, c5, hvk, hnc5, hc5m, hr5⟩ := HMd.out.2.1.sls.at2 hl1
            have hn5 : n5 ≤ 4 := by have h1 := hr5.rngs_len; have h2 := (hsh2.out _ (List.getElem_mem hl2)).1; omega
            have hn : n = (ls ++ preT (x / 256) ls2 j).length := own_count k3.out k4.out
            have hn2 : n ≤ ls.length + ls2.length := by have := preT_len (x / 256) ls2 j; rw [hn, List.length_append]; omega
            have HR5 := Lib.hid hr5
            rw [hvk] at hc1
            subst hA
            clear hvk hn hr5
            have hjm' : (j : Int) < (m2 : Int) := by omega
            have HN := Lib.hid (own_new wr wr.heap.size 25 2 1 #[.int .i64 (x / 256), .int .i64 (x / 256)] (Nat.le_refl _) rfl (by decide))
            go_wp2_with (at_builtin; first
              | (refine app_rngs (.tmp 110) (.tmp 111) (base := wr.heap.size) (xs := [(x / 256, x / 256)]) (n := 1) HN.out (HR5.out.alloc (Nat.le_refl _) _) (by omega) (by simp) rfl rfl rfl rfl ?_; intro v3 w3 hown3 hg3 hat3; obtain ⟨A3, c3, hv3, q3, q4⟩ := own_slice hown3; subst hv3)
              | (refine app_roads (.tmp 106) (.tmp 113) (base := w.heap.size) (xs := vs) (n := n) (own_below k3.out (below_two HN.out hg3 _) (Nat.le_refl _)) (Rds.new w3 1 1 #[.slice A3 (1 + n5) c3] 22 [.slice A3 (1 + n5) c3] rfl rfl) (by simp [Value.oneCell']) (by omega) (by have h := hg3.size; have h2 := k5.size; simp at h ⊢; omega) rfl rfl rfl rfl ?_; intro v4 w4 hown4 hg4 hat4))
            have BB := below_two HN.out hg3 (.cells #[.slice A3 (1 + n5) c3] 22)
            have K3 := own_below k3.out BB (Nat.le_refl _)
            have HM5 := HMd.out.below BB
            have HV4 := Lib.hid (show RoadsVal w w4 (ls ++ preT (x / 256) ls2 (j + 1)) v4 by
              rw [← preT_succ _ _ hl2, ← List.append_assoc]
              exact RoadsVal.push K3 (k4.out.below BB) (k5.trans (BB.mono k5.size)) ((own_mono hown3 k5.size).alloc _) hown4 hg4 (k4.out.fresh hown3))
            have HM4 := Lib.hid (HM5.kept K3 hg4 HOB.out)
            have HO4 := Lib.hid (show ∀ g, v4.ownBlock = some g → g < W0.heap.size ∨ w1.heap.size ≤ g from fun g hg => by
              rcases hat4 with h | h
              · exact HOB.out g (by rw [← h]; exact hg)
              · rw [h] at hg
                injection hg with hg
                exact .inr (by rw [← hg]; exact HM5.2.2.2))
            clear BB K3 HM5 hown3 hg3 hat3 hown4 hg4 hat4
            go_roundw
            case rel => exact ⟨v4, _, _, ⟨j + 1, rfl, by omega, HV4, HO4, HM4⟩, rfl, rfl, by decide, by go_num⟩
            case measure => simp only [intOf]; omega
          · have hjm' : ¬ (j : Int) < (m2 : Int) := by omega
            have HJ := Lib.hid (preT_all (x / 256) ls2 (j := j) (by have := HML.out; omega))
            go_wp2_with fail
            refine ⟨⟨y + 1, ls ++ preT (x / 256) ls2 j, rfl, by omega, by omega, Lib.hid ?_, HVo⟩, by simp only [intOf]; omega⟩
            have h1 := RC.part (B := 256) (m := 0) (mk := 0) (n := 0) (a := x) (b := y) (by decide) (by show x / 256 = y / 256; omega) (by show 0 ≤ 0 + x / 256; omega) (by show 0 + x / 256 ≤ 255; omega) HRC2.out
            have h2 := RC.more (by decide) HRC.out h1 hx0 (by omega)
            rw [show y + 1 - 1 = y by omega, HJ.out]
            rw [show (0 : Int) + x / 256 ^ (0 + 1) = x / 256 from Int.zero_add _] at h2
            exact h2
    · have hx2 : x = b + 1 := by omega
      subst hx2
      obtain ⟨A, n, c, vs, rfl, k⟩ := HV.out
      go_wp2
      go_ret
      exact ⟨ls, Lib.hid (by have h := HRC.out; rw [show b + 1 - 1 = b by omega, show b + 1 - a = b - a + 1 by omega] at h; exact h), A, n, c, vs, rfl, k⟩
end Go.Proofs.YtpdcbddofekbcaaGreat
