/- cut of 3 digits: walked. Printed by genG.py. -/
import Derived.Test.YtpdcbddofekbcaaGreatGT
namespace Go.Proofs.YtpdcbddofekbcaaGreat
open Go.RowKit
set_option linter.unusedVariables false
set_option maxRecDepth 100000 in
set_option maxHeartbeats 2000000 in
theorem cutT_3 (mk a b : Int) (pb pm pc gm : Nat) (w : World) (h : CutE w pb pm pc gm 3 mk) (hl : CutL w pb pm pc gm) (ha : 0 ≤ a) (hab : a ≤ b) (hb : b ≤ 2097151) (hmk : 0 ≤ mk) (hm2 : mk + b / 4096 ≤ 255) (hc1 : CutC w pb pm pc gm 2) :
    Calls Tryz.prog 76 #[.int .i64 a, .int .i64 b, .int .i64 3, .pointer (some ⟨pb, 0, none⟩), .pointer (some ⟨pm, 0, none⟩), .pointer (some ⟨pc, 0, none⟩)] w (RoadsP w fun ls => RC ls (ENum 64 128 mk 2 a b) 3 (b - a + 1)) := by
  have C1 := Lib.hid hc1
  have HL := Lib.hid hl
  obtain ⟨c1, c2, c3, c4⟩ := h
  have HC4 := Lib.hid c4
  have c1' : w.cell? ⟨pb, 0, none⟩ = some (.int .i64 3) := c1
  have EG := Lib.hid (show ∀ args w, (callFunc 76 args).run Tryz.prog w = .ok (.enter 76 args) w from enters_of Tryz.func76 (by kernel_rfl) rfl)
  have hmb : mk ≤ 255 := by omega
  have HM := Lib.hid hm2
  clear hl hc1 c1 hm2
  go_enter Tryz.func76, Tryz.ntmps76
  go_wp2_with fail
  go_loopw [12, 13] (fun o i wr => ∃ x : Int, ∃ ls, i = .int .i64 x ∧ a ≤ x ∧ x ≤ b + 1 ∧ Hid (RC ls (ENum 64 128 mk 2 a (x - 1)) 3 (x - a)) ∧ Hid (RoadsVal w wr ls o)) (fun _ i _ => (b + 1 - intOf i).toNat)
  case atStart => exact ⟨a, [], by go_num, by omega, by omega, Lib.hid (by rw [show a - a = (0 : Int) by omega]; exact RC.nil 64 mk 3 (by omega)), Lib.hid (RoadsVal.nil w)⟩
  case round =>
    obtain ⟨x, ls, rfl, hx0, hx1, HRC, HV⟩ := hrel
    have hx00 : 0 ≤ x := by omega
    by_cases hxb : x ≤ b
    · clear c1' c2 c3 c4
      obtain ⟨y, HY⟩ : ∃ y, (if x / 4096 * 4096 + 4096 - 1 < b then x / 4096 * 4096 + 4096 - 1 else b) = y := ⟨_, rfl⟩
      have hy0 : x ≤ y ∧ y ≤ b ∧ y / 4096 = x / 4096 := by split at HY <;> omega
      obtain ⟨hy0, hy1, hy2⟩ := hy0
      rcases (show (x % 4096 = 0 ∧ y % 4096 = 4095) ∨ ((x % 4096 = 0 ∧ ¬ y % 4096 = 4095) ∨ ¬ x % 4096 = 0) by omega) with ⟨hcx, hcy⟩ | hor
      · go_wp2_with fail
        go_loopw [15] (fun v w2 => ∃ z : Int, v = .int .i64 z ∧ y ≤ z ∧ z ≤ b ∧ z % 4096 = 4095 ∧ w2 = wr) (fun v _ => (b - intOf v).toNat)
        case atStart => exact ⟨y, by go_num, by omega, by omega, hcy, by first | rfl | trivial⟩
        case round =>
          obtain ⟨z, rfl, hz0, hz1, hz2, rfl⟩ := hrel
          by_cases hzb : z + 4096 ≤ b
          · go_wp2
            go_roundw
            case rel => exact ⟨z + 4096, by go_num, by omega, by omega, by omega, by first | rfl | trivial⟩
            case measure => simp only [intOf]; omega
          · go_wp2_with fail
            obtain ⟨W0, hW0⟩ : ∃ W0, W0 = wr := ⟨_, rfl⟩
            rw [← hW0] at HV ⊢
            clear hW0
            have hz : (W0.alloc (.cells #[.int .i64 (mk + x / 4096), .int .i64 (mk + z / 4096)] 25)).heap.size = W0.heap.size + 1 := by simp
            have HR0 := Lib.hid (own_new W0 W0.heap.size 25 2 1 #[.int .i64 (mk + x / 4096), .int .i64 (mk + z / 4096)] (Nat.le_refl _) rfl (by decide))
            have HB0 := Lib.hid (show Below W0.heap.size W0 (W0.alloc (.cells #[.int .i64 (mk + x / 4096), .int .i64 (mk + z / 4096)] 25)) by go_grown)
            go_loopw [16, 88] (fun r i w3 => ∃ j : Nat, i = .int .i64 (j : Int) ∧ j ≤ 2 ∧ Hid (w3.ownsRow W0.heap.size 25 2 r (j + 1) (rngs ((mk + x / 4096, mk + z / 4096) :: List.replicate j (128, 191)))) ∧ Hid (Below W0.heap.size W0 w3)) (fun _ i _ => (3 - intOf i).toNat)
            case atStart => exact ⟨0, by go_num, by omega, HR0, HB0⟩
            case round =>
              obtain ⟨j, rfl, hj, HR, HB⟩ := hrel
              obtain ⟨A3, c3, hv3, q3, q4⟩ := own_slice HR.out
              subst hv3
              by_cases hj1 : j < 2
              · go_wp2_with (at_builtin; refine app_rngs (.tmp 90) (.tmp 92) (base := W0.heap.size) (xs := (mk + x / 4096, mk + z / 4096) :: List.replicate j (128, 191)) (ys := [(128, 191)]) (n := j + 1) (HR.out.alloc _) (Rds.new wr 2 1 #[.int .i64 128, .int .i64 191] 25 (rngs [(128, 191)]) rfl rfl) (by omega) (by have := HB.out.size; simp; omega) rfl rfl rfl rfl ?_; intro v3 w4 hown3 hg3 hat3)
                have HR4 := Lib.hid (show w4.ownsRow W0.heap.size 25 2 v3 (j + 1 + 1) (rngs ((mk + x / 4096, mk + z / 4096) :: List.replicate (j + 1) (128, 191))) by rw [List.replicate_succ']; exact hown3)
                have HB4 := Lib.hid (show Below W0.heap.size W0 w4 from grown_own (HB.out.alloc HB.out.size _) (HR.out.alloc _) hg3 (Nat.le_refl _) (by have := HB.out.size; simp; omega))
                clear hown3 hg3
                go_roundw
                case rel => exact ⟨j + 1, by go_num, by omega, HR4, HB4⟩
                case measure => simp only [intOf]; omega
              · have hj2 : j = 2 := by omega
                subst hj2
                have HV0 : w.heap.size ≤ W0.heap.size := by obtain ⟨_, _, _, _, _, _, _, _, _, h⟩ := HV.out; exact h.size
                obtain ⟨A, n, c, vs, rfl, k1, k2, k30, k40, k50⟩ := HV.out
                have k3 := Lib.hid (own_below k30.out HB.out (Nat.le_refl _))
                have k4 := Lib.hid (k40.out.below HB.out)
                have k5 := k50.trans (HB.out.mono k50.size)
                have HF := Lib.hid (k40.out.fresh HR.out)
                clear k30 k40 k50
                have hn : n = ls.length := own_count k3.out k4.out
                have hlen := HRC.out.len
                go_wp2_with (at_builtin; first
                  | (refine app_roads (.tmp 95) (.tmp 97) (base := w.heap.size) (xs := vs) (n := n) (k3.out.alloc _) (Rds.new wr 1 1 #[.slice A3 (2 + 1) c3] 22 [.slice A3 (2 + 1) c3] rfl rfl) (by simp [Value.oneCell']) (by omega) (by have := k5.size; simp; omega) rfl rfl rfl rfl ?_; intro v4 w4 hown4 hg4 hat4))
                refine ⟨⟨z + 1, ls ++ [(mk + x / 4096, mk + z / 4096) :: List.replicate 2 (128, 191)], rfl, by omega, by omega, Lib.hid ?_, Lib.hid ?_⟩, by simp only [intOf]; omega⟩
                · have hM := HM.out
                  have h1 := RC.whole (B := 64) (m := 128) (mk := mk) (n := 1) (a := x) (b := z) (by decide) (by decide) (by decide) (by omega) hcx hz2 (by show 0 ≤ mk + x / 4096; omega) (by show mk + z / 4096 ≤ 255; omega)
                  have h2 := RC.more (by decide) HRC.out h1 hx0 (by omega)
                  rw [show z + 1 - 1 = z by omega]
                  exact h2
                · exact RoadsVal.push (k3.out.alloc _) (k4.out.alloc _) (k5.alloc k5.size _) ((own_mono HR.out HV0).alloc _) hown4 hg4 HF.out
      · have HVB := Lib.hid (show Below w.heap.size w wr by obtain ⟨_, _, _, _, _, _, _, _, _, h⟩ := HV.out; exact h)
        have KP := Lib.hid (fun (w' : World) (hw : Below wr.heap.size wr w') => show Below wr.heap.size wr w' ∧ w'.cell? ⟨pc, 0, none⟩ = some (.func (.func 76) #[] #[.pointer (some ⟨pb, 0, none⟩), .pointer (some ⟨pm, 0, none⟩), .pointer (some ⟨pc, 0, none⟩)]) from
          ⟨hw, by rw [hw.cell (p := ⟨pc, 0, none⟩) (Nat.lt_of_lt_of_le HL.out.2.2.1 HVB.out.size), HVB.out.cell (p := ⟨pc, 0, none⟩) HL.out.2.2.1]; exact HC4.out⟩)
        have htx : x.tmod 4096 = x % 4096 := Int.tmod_eq_emod_of_nonneg hx00
        have hty : y.tmod 4096 = y % 4096 := Int.tmod_eq_emod_of_nonneg (by omega)
        rcases hor with ⟨hcx, hcy⟩ | hcx
        · have hyb : y = b := by split at HY <;> omega
          have htb : b.tmod 4096 = b % 4096 := Int.tmod_eq_emod_of_nonneg (by omega)
          have hbx : b / 4096 = x / 4096 := by omega
          go_wp2_with fail
          clear hcx hcy
          go_region_held3 (fun w' => Below wr.heap.size wr w' ∧ w'.cell? ⟨pc, 0, none⟩ = some (.func (.func 76) #[] #[.pointer (some ⟨pb, 0, none⟩), .pointer (some ⟨pm, 0, none⟩), .pointer (some ⟨pc, 0, none⟩)]))
            (first
              | (exact KP.out _ (below_drewN (Below.refl _ _) 1))
              | (exact KP.out _ (hby.out))
              | (go_split_ands; exact KP.out _ (below_drewN hby.out 1))
              | go_keep)
            (first
              | (go_split_ands; go_at_call 76; refine (C1.out wr _ HVB.out (by assumption) (x % 4096) (b % 4096) (by omega) (by omega) (by show b % 4096 < 4096; omega)).mono ?_; rintro e w1 ⟨A2, m2, k2, vs2, ls2, rfl, HRC2, HM2, hby⟩))
          obtain ⟨W0, hW0⟩ : ∃ W0, W0 = wr := ⟨_, rfl⟩
          rw [← hW0] at HV HM2 hby HVB
          clear hW0 KP
          have HML := Lib.hid (own_count HM2.out.1 HM2.out.2.1)
          have hlen2 := HRC2.out.len
          have hlen1 := HRC.out.len
          have hsh2 := Lib.hid HRC2.out.shape
          have HO0 := Lib.hid (show ∀ g, u12.ownBlock = some g → g < W0.heap.size ∨ w1.heap.size ≤ g from fun g hg => by
            obtain ⟨A, n, c, vs, e, _, _, k3, _⟩ := HV.out
            subst e
            exact .inl (k3.out.lt g hg).2)
          have HV1 := Lib.hid (HV.out.next hby.out)
          have hw0 : w.heap.size ≤ W0.heap.size := HVB.out.size
          have hw1 : W0.heap.size ≤ w1.heap.size := hby.out.size
          go_wp2_with fail
          go_loopw [12, 110] (fun o i w3 => ∃ j : Nat, i = .int .i64 (j : Int) ∧ j ≤ m2 ∧ Hid (RoadsVal w w3 (ls ++ preT (mk + x / 4096) ls2 j) o) ∧ Hid (∀ g, o.ownBlock = some g → g < W0.heap.size ∨ w1.heap.size ≤ g) ∧ Hid (Mid w3 W0.heap.size w1.heap.size A2 m2 k2 vs2 ls2)) (fun _ i _ => (m2 - intOf i).toNat)
          case atStart => exact ⟨0, by go_num, by omega, Lib.hid (by rw [preT_zero, List.append_nil]; exact HV1.out), HO0, HM2⟩
          case round =>
            obtain ⟨j, rfl, hj, HVo, HOB, HMd⟩ := hrel
            by_cases hjm : j < m2
            · obtain ⟨A, n, c, vs, rfl, k1, k2', k3, k4, k5⟩ := HVo.out
              obtain ⟨b1, off1, hl1, hA, hb1, hc1⟩ := (Rds.of_own HMd.out.1).at1 hjm
              obtain ⟨hl2, A5, n5, c5, hvk, hnc5, hc5m, hr5⟩ := HMd.out.2.1.sls.at2 hl1
              have hn5 : n5 ≤ 4 := by have h1 := hr5.rngs_len; have h2 := (hsh2.out _ (List.getElem_mem hl2)).1; omega
              have hn : n = (ls ++ preT (mk + x / 4096) ls2 j).length := own_count k3.out k4.out
              have hn2 : n ≤ ls.length + ls2.length := by have := preT_len (mk + x / 4096) ls2 j; rw [hn, List.length_append]; omega
              have HR5 := Lib.hid hr5
              rw [hvk] at hc1
              subst hA
              clear hvk hn hr5
              have hjm' : (j : Int) < (m2 : Int) := by omega
              have HN := Lib.hid (own_new wr wr.heap.size 25 2 1 #[.int .i64 (mk + x / 4096), .int .i64 (mk + x / 4096)] (Nat.le_refl _) rfl (by decide))
              go_wp2_with (at_builtin; first
                | (refine app_rngs (.tmp 122) (.tmp 123) (base := wr.heap.size) (xs := [(mk + x / 4096, mk + x / 4096)]) (n := 1) HN.out (HR5.out.alloc (Nat.le_refl _) _) (by omega) (by simp) rfl rfl rfl rfl ?_; intro v3 w3 hown3 hg3 hat3; obtain ⟨A3, c3, hv3, q3, q4⟩ := own_slice hown3; subst hv3)
                | (refine app_roads (.tmp 114) (.tmp 125) (base := w.heap.size) (xs := vs) (n := n) (own_below k3.out (below_two HN.out hg3 _) (Nat.le_refl _)) (Rds.new w3 1 1 #[.slice A3 (1 + n5) c3] 22 [.slice A3 (1 + n5) c3] rfl rfl) (by simp [Value.oneCell']) (by omega) (by have h := hg3.size; have h2 := k5.size; simp at h ⊢; omega) rfl rfl rfl rfl ?_; intro v4 w4 hown4 hg4 hat4))
              have BB := below_two HN.out hg3 (.cells #[.slice A3 (1 + n5) c3] 22)
              have K3 := own_below k3.out BB (Nat.le_refl _)
              have HM5 := HMd.out.below BB
              have HV4 := Lib.hid (show RoadsVal w w4 (ls ++ preT (mk + x / 4096) ls2 (j + 1)) v4 by
                rw [← preT_succ _ _ hl2, ← List.append_assoc]
                exact RoadsVal.push K3 (k4.out.below BB) (k5.trans (BB.mono k5.size)) ((own_mono hown3 k5.size).alloc _) hown4 hg4 (k4.out.fresh hown3))
              have HM4 := Lib.hid (HM5.kept K3 hg4 HOB.out)
              have HO4 := Lib.hid (show ∀ g, v4.ownBlock = some g → g < W0.heap.size ∨ w1.heap.size ≤ g from fun g hg => by
                rcases hat4 with h | h
                · exact HOB.out g (by rw [← h]; exact hg)
                · rw [h] at hg
                  injection hg with hg
                  exact .inr (by rw [← hg]; exact HM5.2.2.2))
              clear BB K3 HM5 hown3 hg3 hat3 hown4 hg4 hat4
              go_roundw
              case rel => exact ⟨v4, _, _, ⟨j + 1, rfl, by omega, HV4, HO4, HM4⟩, rfl, rfl, by decide, by go_num⟩
              case measure => simp only [intOf]; omega
            · have hjm' : ¬ (j : Int) < (m2 : Int) := by omega
              have HJ := Lib.hid (preT_all (mk + x / 4096) ls2 (j := j) (by have := HML.out; omega))
              go_wp2_with fail
              refine ⟨⟨b + 1, ls ++ preT (mk + x / 4096) ls2 j, rfl, by omega, by omega, Lib.hid ?_, HVo⟩, by simp only [intOf]; omega⟩
              have hM := HM.out
              have h1 := RC.part (B := 64) (m := 128) (mk := mk) (n := 1) (a := x) (b := b) (by decide) (by show x / 4096 = b / 4096; omega) (by show 0 ≤ mk + x / 4096; omega) (by show mk + x / 4096 ≤ 255; omega) HRC2.out
              have h2 := RC.more (by decide) HRC.out h1 hx0 (by omega)
              rw [show b + 1 - 1 = b by omega, HJ.out]
              exact h2
        · go_wp2_with fail
          clear hcx
          go_region_held3 (fun w' => Below wr.heap.size wr w' ∧ w'.cell? ⟨pc, 0, none⟩ = some (.func (.func 76) #[] #[.pointer (some ⟨pb, 0, none⟩), .pointer (some ⟨pm, 0, none⟩), .pointer (some ⟨pc, 0, none⟩)]))
            (first
              | (exact KP.out _ (below_drewN (Below.refl _ _) 1))
              | (exact KP.out _ (hby.out))
              | (go_split_ands; exact KP.out _ (below_drewN hby.out 1))
              | go_keep)
            (first
              | (go_split_ands; go_at_call 76; refine (C1.out wr _ HVB.out (by assumption) (x % 4096) (y % 4096) (by omega) (by omega) (by show y % 4096 < 4096; omega)).mono ?_; rintro e w1 ⟨A2, m2, k2, vs2, ls2, rfl, HRC2, HM2, hby⟩))
          obtain ⟨W0, hW0⟩ : ∃ W0, W0 = wr := ⟨_, rfl⟩
          rw [← hW0] at HV HM2 hby HVB
          clear hW0 KP
          have HML := Lib.hid (own_count HM2.out.1 HM2.out.2.1)
          have hlen2 := HRC2.out.len
          have hlen1 := HRC.out.len
          have hsh2 := Lib.hid HRC2.out.shape
          have HO0 := Lib.hid (show ∀ g, u12.ownBlock = some g → g < W0.heap.size ∨ w1.heap.size ≤ g from fun g hg => by
            obtain ⟨A, n, c, vs, e, _, _, k3, _⟩ := HV.out
            subst e
            exact .inl (k3.out.lt g hg).2)
          have HV1 := Lib.hid (HV.out.next hby.out)
          have hw0 : w.heap.size ≤ W0.heap.size := HVB.out.size
          have hw1 : W0.heap.size ≤ w1.heap.size := hby.out.size
          go_wp2_with fail
          go_loopw [12, 110] (fun o i w3 => ∃ j : Nat, i = .int .i64 (j : Int) ∧ j ≤ m2 ∧ Hid (RoadsVal w w3 (ls ++ preT (mk + x / 4096) ls2 j) o) ∧ Hid (∀ g, o.ownBlock = some g → g < W0.heap.size ∨ w1.heap.size ≤ g) ∧ Hid (Mid w3 W0.heap.size w1.heap.size A2 m2 k2 vs2 ls2)) (fun _ i _ => (m2 - intOf i).toNat)
          case atStart => exact ⟨0, by go_num, by omega, Lib.hid (by rw [preT_zero, List.append_nil]; exact HV1.out), HO0, HM2⟩
          case round =>
            obtain ⟨j, rfl, hj, HVo, HOB, HMd⟩ := hrel
            by_cases hjm : j < m2
            · obtain ⟨A, n, c, vs, rfl, k1, k2', k3, k4, k5⟩ := HVo.out
              obtain ⟨b1, off1, hl1, hA, hb1, hc1⟩ := (Rds.of_own HMd.out.1).at1 hjm
              obtain ⟨hl2, A5, n5, c5, hvk, hnc5, hc5m, hr5⟩ := HMd.out.2.1.sls.at2 hl1
              have hn5 : n5 ≤ 4 := by have h1 := hr5.rngs_len; have h2 := (hsh2.out _ (List.getElem_mem hl2)).1; omega
              have hn : n = (ls ++ preT (mk + x / 4096) ls2 j).length := own_count k3.out k4.out
              have hn2 : n ≤ ls.length + ls2.length := by have := preT_len (mk + x / 4096) ls2 j; rw [hn, List.length_append]; omega
              have HR5 := Lib.hid hr5
              rw [hvk] at hc1
              subst hA
              clear hvk hn hr5
              have hjm' : (j : Int) < (m2 : Int) := by omega
              have HN := Lib.hid (own_new wr wr.heap.size 25 2 1 #[.int .i64 (mk + x / 4096), .int .i64 (mk + x / 4096)] (Nat.le_refl _) rfl (by decide))
              go_wp2_with (at_builtin; first
                | (refine app_rngs (.tmp 122) (.tmp 123) (base := wr.heap.size) (xs := [(mk + x / 4096, mk + x / 4096)]) (n := 1) HN.out (HR5.out.alloc (Nat.le_refl _) _) (by omega) (by simp) rfl rfl rfl rfl ?_; intro v3 w3 hown3 hg3 hat3; obtain ⟨A3, c3, hv3, q3, q4⟩ := own_slice hown3; subst hv3)
                | (refine app_roads (.tmp 114) (.tmp 125) (base := w.heap.size) (xs := vs) (n := n) (own_below k3.out (below_two HN.out hg3 _) (Nat.le_refl _)) (Rds.new w3 1 1 #[.slice A3 (1 + n5) c3] 22 [.slice A3 (1 + n5) c3] rfl rfl) (by simp [Value.oneCell']) (by omega) (by have h := hg3.size; have h2 := k5.size; simp at h ⊢; omega) rfl rfl rfl rfl ?_; intro v4 w4 hown4 hg4 hat4))
              have BB := below_two HN.out hg3 (.cells #[.slice A3 (1 + n5) c3] 22)
              have K3 := own_below k3.out BB (Nat.le_refl _)
              have HM5 := HMd.out.below BB
              have HV4 := Lib.hid (show RoadsVal w w4 (ls ++ preT (mk + x / 4096) ls2 (j + 1)) v4 by
                rw [← preT_succ _ _ hl2, ← List.append_assoc]
                exact RoadsVal.push K3 (k4.out.below BB) (k5.trans (BB.mono k5.size)) ((own_mono hown3 k5.size).alloc _) hown4 hg4 (k4.out.fresh hown3))
              have HM4 := Lib.hid (HM5.kept K3 hg4 HOB.out)
              have HO4 := Lib.hid (show ∀ g, v4.ownBlock = some g → g < W0.heap.size ∨ w1.heap.size ≤ g from fun g hg => by
                rcases hat4 with h | h
                · exact HOB.out g (by rw [← h]; exact hg)
                · rw [h] at hg
                  injection hg with hg
                  exact .inr (by rw [← hg]; exact HM5.2.2.2))
              clear BB K3 HM5 hown3 hg3 hat3 hown4 hg4 hat4
              go_roundw
              case rel => exact ⟨v4, _, _, ⟨j + 1, rfl, by omega, HV4, HO4, HM4⟩, rfl, rfl, by decide, by go_num⟩
              case measure => simp only [intOf]; omega
            · have hjm' : ¬ (j : Int) < (m2 : Int) := by omega
              have HJ := Lib.hid (preT_all (mk + x / 4096) ls2 (j := j) (by have := HML.out; omega))
              go_wp2_with fail
              refine ⟨⟨y + 1, ls ++ preT (mk + x / 4096) ls2 j, rfl, by omega, by omega, Lib.hid ?_, HVo⟩, by simp only [intOf]; omega⟩
              have hM := HM.out
              have h1 := RC.part (B := 64) (m := 128) (mk := mk) (n := 1) (a := x) (b := y) (by decide) (by show x / 4096 = y / 4096; omega) (by show 0 ≤ mk + x / 4096; omega) (by show mk + x / 4096 ≤ 255; omega) HRC2.out
              have h2 := RC.more (by decide) HRC.out h1 hx0 (by omega)
              rw [show y + 1 - 1 = y by omega, HJ.out]
              exact h2
    · have hx2 : x = b + 1 := by omega
      subst hx2
      obtain ⟨A, n, c, vs, rfl, k⟩ := HV.out
      go_wp2
      go_ret
      exact ⟨ls, Lib.hid (by have h := HRC.out; rw [show b + 1 - 1 = b by omega, show b + 1 - a = b - a + 1 by omega] at h; exact h), A, n, c, vs, rfl, k⟩
set_option maxRecDepth 100000 in
set_option maxHeartbeats 2000000 in
theorem cutL_3 (a b : Int) (B : Nat) (mk0 : Int) (pb pm pc gm : Nat) (w : World) (h : CutE w pb pm pc gm B mk0) (hl : CutL w pb pm pc gm) (ha : 0 ≤ a) (hab : a ≤ b) (hb : b ≤ 262143) (hB : 3 < B ∧ B ≤ 4) (hc1 : CutC w pb pm pc gm 2) :
    Calls Tryz.prog 76 #[.int .i64 a, .int .i64 b, .int .i64 3, .pointer (some ⟨pb, 0, none⟩), .pointer (some ⟨pm, 0, none⟩), .pointer (some ⟨pc, 0, none⟩)] w (RoadsP w fun ls => RC ls (ENum 64 128 128 2 a b) 3 (b - a + 1)) := by
  have C1 := Lib.hid hc1
  have HL := Lib.hid hl
  obtain ⟨c1, c2, c3, c4⟩ := h
  have HC4 := Lib.hid c4
  have c1' := c1
  obtain ⟨hB0, hB1⟩ := hB
  have hne : ((3 : Int) == (B : Int)) = false := beq_eq_false_iff_ne.2 (by omega)
  have EG := Lib.hid (show ∀ args w, (callFunc 76 args).run Tryz.prog w = .ok (.enter 76 args) w from enters_of Tryz.func76 (by kernel_rfl) rfl)
  have HM := Lib.hid (show (128 : Int) + b / 4096 ≤ 255 by omega)
  clear hl hc1 c1
  go_enter Tryz.func76, Tryz.ntmps76
  go_wp2_with fail
  go_loopw [12, 13] (fun o i wr => ∃ x : Int, ∃ ls, i = .int .i64 x ∧ a ≤ x ∧ x ≤ b + 1 ∧ Hid (RC ls (ENum 64 128 128 2 a (x - 1)) 3 (x - a)) ∧ Hid (RoadsVal w wr ls o)) (fun _ i _ => (b + 1 - intOf i).toNat)
  case atStart => exact ⟨a, [], by go_num, by omega, by omega, Lib.hid (by rw [show a - a = (0 : Int) by omega]; exact RC.nil 64 128 3 (by omega)), Lib.hid (RoadsVal.nil w)⟩
  case round =>
    obtain ⟨x, ls, rfl, hx0, hx1, HRC, HV⟩ := hrel
    have hx00 : 0 ≤ x := by omega
    by_cases hxb : x ≤ b
    · clear c1' c2 c3 c4
      obtain ⟨y, HY⟩ : ∃ y, (if x / 4096 * 4096 + 4096 - 1 < b then x / 4096 * 4096 + 4096 - 1 else b) = y := ⟨_, rfl⟩
      have hy0 : x ≤ y ∧ y ≤ b ∧ y / 4096 = x / 4096 := by split at HY <;> omega
      obtain ⟨hy0, hy1, hy2⟩ := hy0
      rcases (show (x % 4096 = 0 ∧ y % 4096 = 4095) ∨ ((x % 4096 = 0 ∧ ¬ y % 4096 = 4095) ∨ ¬ x % 4096 = 0) by omega) with ⟨hcx, hcy⟩ | hor
      · go_wp2_with fail
        go_loopw [15] (fun v w2 => ∃ z : Int, v = .int .i64 z ∧ y ≤ z ∧ z ≤ b ∧ z % 4096 = 4095 ∧ w2 = wr) (fun v _ => (b - intOf v).toNat)
        case atStart => exact ⟨y, by go_num, by omega, by omega, hcy, by first | rfl | trivial⟩
        case round =>
          obtain ⟨z, rfl, hz0, hz1, hz2, rfl⟩ := hrel
          by_cases hzb : z + 4096 ≤ b
          · go_wp2
            go_roundw
            case rel => exact ⟨z + 4096, by go_num, by omega, by omega, by omega, by first | rfl | trivial⟩
            case measure => simp only [intOf]; omega
          · go_wp2_with fail
            obtain ⟨W0, hW0⟩ : ∃ W0, W0 = wr := ⟨_, rfl⟩
            rw [← hW0] at HV ⊢
            clear hW0
            have hz : (W0.alloc (.cells #[.int .i64 (128 + x / 4096), .int .i64 (128 + z / 4096)] 25)).heap.size = W0.heap.size + 1 := by simp
            have HR0 := Lib.hid (own_new W0 W0.heap.size 25 2 1 #[.int .i64 (128 + x / 4096), .int .i64 (128 + z / 4096)] (Nat.le_refl _) rfl (by decide))
            have HB0 := Lib.hid (show Below W0.heap.size W0 (W0.alloc (.cells #[.int .i64 (128 + x / 4096), .int .i64 (128 + z / 4096)] 25)) by go_grown)
            go_loopw [16, 88] (fun r i w3 => ∃ j : Nat, i = .int .i64 (j : Int) ∧ j ≤ 2 ∧ Hid (w3.ownsRow W0.heap.size 25 2 r (j + 1) (rngs ((128 + x / 4096, 128 + z / 4096) :: List.replicate j (128, 191)))) ∧ Hid (Below W0.heap.size W0 w3)) (fun _ i _ => (3 - intOf i).toNat)
            case atStart => exact ⟨0, by go_num, by omega, HR0, HB0⟩
            case round =>
              obtain ⟨j, rfl, hj, HR, HB⟩ := hrel
              obtain ⟨A3, c3, hv3, q3, q4⟩ := own_slice HR.out
              subst hv3
              by_cases hj1 : j < 2
              · go_wp2_with (at_builtin; refine app_rngs (.tmp 90) (.tmp 92) (base := W0.heap.size) (xs := (128 + x / 4096, 128 + z / 4096) :: List.replicate j (128, 191)) (ys := [(128, 191)]) (n := j + 1) (HR.out.alloc _) (Rds.new wr 2 1 #[.int .i64 128, .int .i64 191] 25 (rngs [(128, 191)]) rfl rfl) (by omega) (by have := HB.out.size; simp; omega) rfl rfl rfl rfl ?_; intro v3 w4 hown3 hg3 hat3)
                have HR4 := Lib.hid (show w4.ownsRow W0.heap.size 25 2 v3 (j + 1 + 1) (rngs ((128 + x / 4096, 128 + z / 4096) :: List.replicate (j + 1) (128, 191))) by rw [List.replicate_succ']; exact hown3)
                have HB4 := Lib.hid (show Below W0.heap.size W0 w4 from grown_own (HB.out.alloc HB.out.size _) (HR.out.alloc _) hg3 (Nat.le_refl _) (by have := HB.out.size; simp; omega))
                clear hown3 hg3
                go_roundw
                case rel => exact ⟨j + 1, by go_num, by omega, HR4, HB4⟩
                case measure => simp only [intOf]; omega
              · have hj2 : j = 2 := by omega
                subst hj2
                have HV0 : w.heap.size ≤ W0.heap.size := by obtain ⟨_, _, _, _, _, _, _, _, _, h⟩ := HV.out; exact h.size
                obtain ⟨A, n, c, vs, rfl, k1, k2, k30, k40, k50⟩ := HV.out
                have k3 := Lib.hid (own_below k30.out HB.out (Nat.le_refl _))
                have k4 := Lib.hid (k40.out.below HB.out)
                have k5 := k50.trans (HB.out.mono k50.size)
                have HF := Lib.hid (k40.out.fresh HR.out)
                clear k30 k40 k50
                have hn : n = ls.length := own_count k3.out k4.out
                have hlen := HRC.out.len
                go_wp2_with (at_builtin; first
                  | (refine app_roads (.tmp 95) (.tmp 97) (base := w.heap.size) (xs := vs) (n := n) (k3.out.alloc _) (Rds.new wr 1 1 #[.slice A3 (2 + 1) c3] 22 [.slice A3 (2 + 1) c3] rfl rfl) (by simp [Value.oneCell']) (by omega) (by have := k5.size; simp; omega) rfl rfl rfl rfl ?_; intro v4 w4 hown4 hg4 hat4))
                refine ⟨⟨z + 1, ls ++ [(128 + x / 4096, 128 + z / 4096) :: List.replicate 2 (128, 191)], rfl, by omega, by omega, Lib.hid ?_, Lib.hid ?_⟩, by simp only [intOf]; omega⟩
                · have hM := HM.out
                  have h1 := RC.whole (B := 64) (m := 128) (mk := 128) (n := 1) (a := x) (b := z) (by decide) (by decide) (by decide) (by omega) hcx hz2 (by show 0 ≤ 128 + x / 4096; omega) (by show 128 + z / 4096 ≤ 255; omega)
                  have h2 := RC.more (by decide) HRC.out h1 hx0 (by omega)
                  rw [show z + 1 - 1 = z by omega]
                  exact h2
                · exact RoadsVal.push (k3.out.alloc _) (k4.out.alloc _) (k5.alloc k5.size _) ((own_mono HR.out HV0).alloc _) hown4 hg4 HF.out
      · have HVB := Lib.hid (show Below w.heap.size w wr by obtain ⟨_, _, _, _, _, _, _, _, _, h⟩ := HV.out; exact h)
        have KP := Lib.hid (fun (w' : World) (hw : Below wr.heap.size wr w') => show Below wr.heap.size wr w' ∧ w'.cell? ⟨pc, 0, none⟩ = some (.func (.func 76) #[] #[.pointer (some ⟨pb, 0, none⟩), .pointer (some ⟨pm, 0, none⟩), .pointer (some ⟨pc, 0, none⟩)]) from
          ⟨hw, by rw [hw.cell (p := ⟨pc, 0, none⟩) (Nat.lt_of_lt_of_le HL.out.2.2.1 HVB.out.size), HVB.out.cell (p := ⟨pc, 0, none⟩) HL.out.2.2.1]; exact HC4.out⟩)
        have htx : x.tmod 4096 = x % 4096 := Int.tmod_eq_emod_of_nonneg hx00
        have hty : y.tmod 4096 = y % 4096 := Int.tmod_eq_emod_of_nonneg (by omega)
        rcases hor with ⟨hcx, hcy⟩ | hcx
        · have hyb : y = b := by split at HY <;> omega
          have htb : b.tmod 4096 = b % 4096 := Int.tmod_eq_emod_of_nonneg (by omega)
          have hbx : b / 4096 = x / 4096 := by omega
          go_wp2_with fail
          clear hcx hcy
          go_region_held3 (fun w' => Below wr.heap.size wr w' ∧ w'.cell? ⟨pc, 0, none⟩ = some (.func (.func 76) #[] #[.pointer (some ⟨pb, 0, none⟩), .pointer (some ⟨pm, 0, none⟩), .pointer (some ⟨pc, 0, none⟩)]))
            (first
              | (exact KP.out _ (below_drewN (Below.refl _ _) 1))
              | (exact KP.out _ (hby.out))
              | (go_split_ands; exact KP.out _ (below_drewN hby.out 1))
              | go_keep)
            (first
              | (go_split_ands; go_at_call 76; refine (C1.out wr _ HVB.out (by assumption) (x % 4096) (b % 4096) (by omega) (by omega) (by show b % 4096 < 4096; omega)).mono ?_; rintro e w1 ⟨A2, m2, k2, vs2, ls2, rfl, HRC2, HM2, hby⟩))
          obtain ⟨W0, hW0⟩ : ∃ W0, W0 = wr := ⟨_, rfl⟩
          rw [← hW0] at HV HM2 hby HVB
          clear hW0 KP
          have HML := Lib.hid (own_count HM2.out.1 HM2.out.2.1)
          have hlen2 := HRC2.out.len
          have hlen1 := HRC.out.len
          have hsh2 := Lib.hid HRC2.out.shape
          have HO0 := Lib.hid (show ∀ g, u12.ownBlock = some g → g < W0.heap.size ∨ w1.heap.size ≤ g from fun g hg => by
            obtain ⟨A, n, c, vs, e, _, _, k3, _⟩ := HV.out
            subst e
            exact .inl (k3.out.lt g hg).2)
          have HV1 := Lib.hid (HV.out.next hby.out)
          have hw0 : w.heap.size ≤ W0.heap.size := HVB.out.size
          have hw1 : W0.heap.size ≤ w1.heap.size := hby.out.size
          go_wp2_with fail
          go_loopw [12, 110] (fun o i w3 => ∃ j : Nat, i = .int .i64 (j : Int) ∧ j ≤ m2 ∧ Hid (RoadsVal w w3 (ls ++ preT (128 + x / 4096) ls2 j) o) ∧ Hid (∀ g, o.ownBlock = some g → g < W0.heap.size ∨ w1.heap.size ≤ g) ∧ Hid (Mid w3 W0.heap.size w1.heap.size A2 m2 k2 vs2 ls2)) (fun _ i _ => (m2 - intOf i).toNat)
          case atStart => exact ⟨0, by go_num, by omega, Lib.hid (by rw [preT_zero, List.append_nil]; exact HV1.out), HO0, HM2⟩
          case round =>
            obtain ⟨j, rfl, hj, HVo, HOB, HMd⟩ := hrel
            by_cases hjm : j < m2
            · obtain ⟨A, n, c, vs, rfl, k1, k2', k3, k4, k5⟩ := HVo.out
              obtain ⟨b1, off1, hl1, hA, hb1, hc1⟩ := (Rds.of_own HMd.out.1).at1 hjm
              obtain ⟨hl2, A5, n5, c5, hvk, hnc5, hc5m, hr5⟩ := HMd.out.2.1.sls.at2 hl1
              have hn5 : n5 ≤ 4 := by have h1 := hr5.rngs_len; have h2 := (hsh2.out _ (List.getElem_mem hl2)).1; omega
              have hn : n = (ls ++ preT (128 + x / 4096) ls2 j).length := own_count k3.out k4.out
              have hn2 : n ≤ ls.length + ls2.length := by have := preT_len (128 + x / 4096) ls2 j; rw [hn, List.length_append]; omega
              have HR5 := Lib.hid hr5
              rw [hvk] at hc1
              subst hA
              clear hvk hn hr5
              have hjm' : (j : Int) < (m2 : Int) := by omega
              have HN := Lib.hid (own_new wr wr.heap.size 25 2 1 #[.int .i64 (128 + x / 4096), .int .i64 (128 + x / 4096)] (Nat.le_refl _) rfl (by decide))
              go_wp2_with (at_builtin; first
                | (refine app_rngs (.tmp 122) (.tmp 123) (base := wr.heap.size) (xs := [(128 + x / 4096, 128 + x / 4096)]) (n := 1) HN.out (HR5.out.alloc (Nat.le_refl _) _) (by omega) (by simp) rfl rfl rfl rfl ?_; intro v3 w3 hown3 hg3 hat3; obtain ⟨A3, c3, hv3, q3, q4⟩ := own_slice hown3; subst hv3)
                | (refine app_roads (.tmp 114) (.tmp 125) (base := w.heap.size) (xs := vs) (n := n) (own_below k3.out (below_two HN.out hg3 _) (Nat.le_refl _)) (Rds.new w3 1 1 #[.slice A3 (1 + n5) c3] 22 [.slice A3 (1 + n5) c3] rfl rfl) (by simp [Value.oneCell']) (by omega) (by have h := hg3.size; have h2 := k5.size; simp at h ⊢; omega) rfl rfl rfl rfl ?_; intro v4 w4 hown4 hg4 hat4))
              have BB := below_two HN.out hg3 (.cells #[.slice A3 (1 + n5) c3] 22)
              have K3 := own_below k3.out BB (Nat.le_refl _)
              have HM5 := HMd.out.below BB
              have HV4 := Lib.hid (show RoadsVal w w4 (ls ++ preT (128 + x / 4096) ls2 (j + 1)) v4 by
                rw [← preT_succ _ _ hl2, ← List.append_assoc]
                exact RoadsVal.push K3 (k4.out.below BB) (k5.trans (BB.mono k5.size)) ((own_mono hown3 k5.size).alloc _) hown4 hg4 (k4.out.fresh hown3))
              have HM4 := Lib.hid (HM5.kept K3 hg4 HOB.out)
              have HO4 := Lib.hid (show ∀ g, v4.ownBlock = some g → g < W0.heap.size ∨ w1.heap.size ≤ g from fun g hg => by
                rcases hat4 with h | h
                · exact HOB.out g (by rw [← h]; exact hg)
                · rw [h] at hg
                  injection hg with hg
                  exact .inr (by rw [← hg]; exact HM5.2.2.2))
              clear BB K3 HM5 hown3 hg3 hat3 hown4 hg4 hat4
              go_roundw
              case rel => exact ⟨v4, _, _, ⟨j + 1, rfl, by omega, HV4, HO4, HM4⟩, rfl, rfl, by decide, by go_num⟩
              case measure => simp only [intOf]; omega
            · have hjm' : ¬ (j : Int) < (m2 : Int) := by omega
              have HJ := Lib.hid (preT_all (128 + x / 4096) ls2 (j := j) (by have := HML.out; omega))
              go_wp2_with fail
              refine ⟨⟨b + 1, ls ++ preT (128 + x / 4096) ls2 j, rfl, by omega, by omega, Lib.hid ?_, HVo⟩, by simp only [intOf]; omega⟩
              have hM := HM.out
              have h1 := RC.part (B := 64) (m := 128) (mk := 128) (n := 1) (a := x) (b := b) (by decide) (by show x / 4096 = b / 4096; omega) (by show 0 ≤ 128 + x / 4096; omega) (by show 128 + x / 4096 ≤ 255; omega) HRC2.out
              have h2 := RC.more (by decide) HRC.out h1 hx0 (by omega)
              rw [show b + 1 - 1 = b by omega, HJ.out]
              exact h2
        · go_wp2_with fail
          clear hcx
          go_region_held3 (fun w' => Below wr.heap.size wr w' ∧ w'.cell? ⟨pc, 0, none⟩ = some (.func (.func 76) #[] #[.pointer (some ⟨pb, 0, none⟩), .pointer (some ⟨pm, 0, none⟩), .pointer (some ⟨pc, 0, none⟩)]))
            (first
              | (exact KP.out _ (below_drewN (Below.refl _ _) 1))
              | (exact KP.out _ (hby.out))
              | (go_split_ands; exact KP.out _ (below_drewN hby.out 1))
              | go_keep)
            (first
              | (go_split_ands; go_at_call 76; refine (C1.out wr _ HVB.out (by assumption) (x % 4096) (y % 4096) (by omega) (by omega) (by show y % 4096 < 4096; omega)).mono ?_; rintro e w1 ⟨A2, m2, k2, vs2, ls2, rfl, HRC2, HM2, hby⟩))
          obtain ⟨W0, hW0⟩ : ∃ W0, W0 = wr := ⟨_, rfl⟩
          rw [← hW0] at HV HM2 hby HVB
          clear hW0 KP
          have HML := Lib.hid (own_count HM2.out.1 HM2.out.2.1)
          have hlen2 := HRC2.out.len
          have hlen1 := HRC.out.len
          have hsh2 := Lib.hid HRC2.out.shape
          have HO0 := Lib.hid (show ∀ g, u12.ownBlock = some g → g < W0.heap.size ∨ w1.heap.size ≤ g from fun g hg => by
            obtain ⟨A, n, c, vs, e, _, _, k3, _⟩ := HV.out
            subst e
            exact .inl (k3.out.lt g hg).2)
          have HV1 := Lib.hid (HV.out.next hby.out)
          have hw0 : w.heap.size ≤ W0.heap.size := HVB.out.size
          have hw1 : W0.heap.size ≤ w1.heap.size := hby.out.size
          go_wp2_with fail
          go_loopw [12, 110] (fun o i w3 => ∃ j : Nat, i = .int .i64 (j : Int) ∧ j ≤ m2 ∧ Hid (RoadsVal w w3 (ls ++ preT (128 + x / 4096) ls2 j) o) ∧ Hid (∀ g, o.ownBlock = some g → g < W0.heap.size ∨ w1.heap.size ≤ g) ∧ Hid (Mid w3 W0.heap.size w1.heap.size A2 m2 k2 vs2 ls2)) (fun _ i _ => (m2 - intOf i).toNat)
          case atStart => exact ⟨0, by go_num, by omega, Lib.hid (by rw [preT_zero, List.append_nil]; exact HV1.out), HO0, HM2⟩
          case round =>
            obtain ⟨j, rfl, hj, HVo, HOB, HMd⟩ := hrel
            by_cases hjm : j < m2
            · obtain ⟨A, n, c, vs, rfl, k1, k2', k3, k4, k5⟩ := HVo.out
              obtain ⟨b1, off1, hl1, hA, hb1, hc1⟩ := (Rds.of_own HMd.out.1).at1 hjm
              obtain ⟨hl2, A5, n5, c5, hvk, hnc5, hc5m, hr5⟩ := HMd.out.2.1.sls.at2 hl1
              have hn5 : n5 ≤ 4 := by have h1 := hr5.rngs_len; have h2 := (hsh2.out _ (List.getElem_mem hl2)).1; omega
              have hn : n = (ls ++ preT (128 + x / 4096) ls2 j).length := own_count k3.out k4.out
              have hn2 : n ≤ ls.length + ls2.length := by have := preT_len (128 + x / 4096) ls2 j; rw [hn, List.length_append]; omega
              have HR5 := Lib.hid hr5
              rw [hvk] at hc1
              subst hA
              clear hvk hn hr5
              have hjm' : (j : Int) < (m2 : Int) := by omega
              have HN := Lib.hid (own_new wr wr.heap.size 25 2 1 #[.int .i64 (128 + x / 4096), .int .i64 (128 + x / 4096)] (Nat.le_refl _) rfl (by decide))
              go_wp2_with (at_builtin; first
                | (refine app_rngs (.tmp 122) (.tmp 123) (base := wr.heap.size) (xs := [(128 + x / 4096, 128 + x / 4096)]) (n := 1) HN.out (HR5.out.alloc (Nat.le_refl _) _) (by omega) (by simp) rfl rfl rfl rfl ?_; intro v3 w3 hown3 hg3 hat3; obtain ⟨A3, c3, hv3, q3, q4⟩ := own_slice hown3; subst hv3)
                | (refine app_roads (.tmp 114) (.tmp 125) (base := w.heap.size) (xs := vs) (n := n) (own_below k3.out (below_two HN.out hg3 _) (Nat.le_refl _)) (Rds.new w3 1 1 #[.slice A3 (1 + n5) c3] 22 [.slice A3 (1 + n5) c3] rfl rfl) (by simp [Value.oneCell']) (by omega) (by have h := hg3.size; have h2 := k5.size; simp at h ⊢; omega) rfl rfl rfl rfl ?_; intro v4 w4 hown4 hg4 hat4))
              have BB := below_two HN.out hg3 (.cells #[.slice A3 (1 + n5) c3] 22)
              have K3 := own_below k3.out BB (Nat.le_refl _)
              have HM5 := HMd.out.below BB
              have HV4 := Lib.hid (show RoadsVal w w4 (ls ++ preT (128 + x / 4096) ls2 (j + 1)) v4 by
                rw [← preT_succ _ _ hl2, ← List.append_assoc]
                exact RoadsVal.push K3 (k4.out.below BB) (k5.trans (BB.mono k5.size)) ((own_mono hown3 k5.size).alloc _) hown4 hg4 (k4.out.fresh hown3))
              have HM4 := Lib.hid (HM5.kept K3 hg4 HOB.out)
              have HO4 := Lib.hid (show ∀ g, v4.ownBlock = some g → g < W0.heap.size ∨ w1.heap.size ≤ g from fun g hg => by
                rcases hat4 with h | h
                · exact HOB.out g (by rw [← h]; exact hg)
                · rw [h] at hg
                  injection hg with hg
                  exact .inr (by rw [← hg]; exact HM5.2.2.2))
              clear BB K3 HM5 hown3 hg3 hat3 hown4 hg4 hat4
              go_roundw
              case rel => exact ⟨v4, _, _, ⟨j + 1, rfl, by omega, HV4, HO4, HM4⟩, rfl, rfl, by decide, by go_num⟩
              case measure => simp only [intOf]; omega
            · have hjm' : ¬ (j : Int) < (m2 : Int) := by omega
              have HJ := Lib.hid (preT_all (128 + x / 4096) ls2 (j := j) (by have := HML.out; omega))
              go_wp2_with fail
              refine ⟨⟨y + 1, ls ++ preT (128 + x / 4096) ls2 j, rfl, by omega, by omega, Lib.hid ?_, HVo⟩, by simp only [intOf]; omega⟩
              have hM := HM.out
              have h1 := RC.part (B := 64) (m := 128) (mk := 128) (n := 1) (a := x) (b := y) (by decide) (by show x / 4096 = y / 4096; omega) (by show 0 ≤ 128 + x / 4096; omega) (by show 128 + x / 4096 ≤ 255; omega) HRC2.out
              have h2 := RC.more (by decide) HRC.out h1 hx0 (by omega)
              rw [show y + 1 - 1 = y by omega, HJ.out]
              exact h2
    · have hx2 : x = b + 1 := by omega
      subst hx2
      obtain ⟨A, n, c, vs, rfl, k⟩ := HV.out
      go_wp2
      go_ret
      exact ⟨ls, Lib.hid (by have h := HRC.out; rw [show b + 1 - 1 = b by omega, show b + 1 - a = b - a + 1 by omega] at h; exact h), A, n, c, vs, rfl, k⟩
end Go.Proofs.YtpdcbddofekbcaaGreat
