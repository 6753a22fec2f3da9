/- names of show: walked. -/
import Derived.Test.YtbekjfoefjnidaaDoorFsAI
import Derived.Deep.CutRange
import Derived.StringKeys
namespace Go.Proofs.YtbekjfoefjnidaaDoor
open Go.RowKit Go.Maps
set_option linter.unusedVariables false
noncomputable abbrev pb {H : Type} : Value → Option (DataW H × List MemPlace) := plainElem Tryd.prog 4
def nmB (w : World) (s : ByteArray) (x : Int) : World := w.alloc (.cells #[.string s, .int .i64 x] 49)
theorem nmB_below {B : Nat} {w wr : World} (h : Below B w wr) (hB : B ≤ wr.heap.size) (s : ByteArray) (x : Int) : Below B w (wr.alloc (.cells #[.string s, .int .i64 x] 49)) := h.alloc hB _
theorem PatN.gn {w w' : World} {b B : Nat} {d : ND} {gr : Int} {nA : Option Addr} {nn nc : Nat} (h : PatN w b d gr nA nn nc) (hb : Below B w w') (hB : b < B) : w'.cell? ⟨b, 8, none⟩ = some (.int .i64 gr) ∧ w'.cell? ⟨b, 9, none⟩ = some (.slice nA nn nc) := (h.below hb hB).2
theorem any_take {α : Type} {p : α → Bool} {l : List α} {k : Nat} (hk : k < l.length) (h : (l.take k).any p = false) (hp : p l[k] = false) : (l.take (k + 1)).any p = false := by
  rw [List.take_succ_eq_append_getElem hk, List.any_append, h]; simp [hp]
theorem any_at {α : Type} {p : α → Bool} {l : List α} {k : Nat} (hk : k < l.length) (hp : p l[k] = true) : l.any p = true := List.any_eq_true.2 ⟨_, List.getElem_mem hk, hp⟩
theorem strKeys_snoc (l : List (ByteArray × Int)) (s : ByteArray) (n : Int) : strKeys (l ++ [(s, n)]) = strKeys l ++ [.string s.data.toList] := by unfold strKeys; rw [List.map_append]; rfl
theorem intKeys_snoc (l : List (ByteArray × Int)) (s : ByteArray) (n : Int) : intKeys (l ++ [(s, n)]) = intKeys l ++ [.int .i64 n] := by unfold intKeys; rw [List.map_append]; rfl
def OrdTo (l : List (ByteArray × Int)) (k : Nat) : Prop := ∀ i, (h : i + 1 < l.length) → i + 1 < k → (l[i]'(by omega)).2 ≤ l[i + 1].2
theorem OrdTo.one (l : List (ByteArray × Int)) : OrdTo l 1 := fun i hi h => by omega
theorem OrdTo.succ {l : List (ByteArray × Int)} {k : Nat} (h : OrdTo l (k + 1)) (hk : k + 1 < l.length) (hg : (l[k]'(by omega)).2 ≤ l[k + 1].2) : OrdTo l (k + 1 + 1) := by
  intro i hi hlt
  by_cases e : i = k
  · subst e; exact hg
  · exact h i hi (by omega)
theorem OrdTo.not_falls {l : List (ByteArray × Int)} {k : Nat} (h : OrdTo l (k + 1)) (hk : l.length ≤ k + 1) : ¬ Falls l := by
  rintro ⟨i, hi, hlt⟩
  have := h i hi (by omega)
  omega
set_option maxRecDepth 100000 in
set_option maxHeartbeats 4000000 in
theorem names38 (d : ND) (gr : Int) (nA : Option Addr) (nn nc : Nat) (l : List (ByteArray × Int)) (w : World) (hl : NamesAt w w.heap.size nA nn l) (hnc : nn ≤ nc) (hcm : nc ≤ maxLen) (hnm : nn < maxLen) :
    Calls Tryd.prog 16 #[patV d gr nA nn nc] w fun e w' => e = .returned (.int .i64 (namesE gr l)) ∧ Below w.heap.size w w' := by
  obtain ⟨dk, dsA, dsn, dsc, dkA, dkn, dkc, dnum, dleast, dmost, dway, dfold⟩ := d
  unfold patV
  simp only
  have hmm := @run_makeMap Tryd.prog
  have HP := Lib.hid (PatN.new w ⟨dk, dsA, dsn, dsc, dkA, dkn, dkc, dnum, dleast, dmost, dway, dfold⟩ gr nA nn nc)
  have HB := Lib.hid (patB_below w ⟨dk, dsA, dsn, dsc, dkA, dkn, dkc, dnum, dleast, dmost, dway, dfold⟩ gr nA nn nc)
  have HL0 := Lib.hid (hl.next HB.out)
  have HLEN := Lib.hid hl.len
  have HTXT := Lib.hid hl.txt
  have HNUM := Lib.hid hl.num
  unfold patB at HP HB HL0
  simp only at HP HB HL0
  unfold maxLen at hcm hnm
  clear hl
  go_enter Tryd.func16, Tryd.ntmps16
  go_wp2_with fail
  generalize hW0 : w.alloc (.cells #[.int .i64 dk, .slice dsA dsn dsc, .slice dkA dkn dkc, .int .i64 dnum, .int .i64 dleast, .int .i64 dmost, .int .i64 dway, .bool dfold, .int .i64 gr, .slice nA nn nc] 28) = W0 at *
  clear hW0
  have z8 := HP.out.2.1
  have z9 := HP.out.2.2
  have hlt := HP.out.1.1
  go_loopw [15] (fun i wr => ∃ k : Nat, k ≤ nn ∧ i = .int .i64 k ∧ Hid ((l.take k).any (numOut gr) = false) ∧ Hid (Below W0.heap.size W0 wr)) (fun i _ => nn - (intOf i).toNat)
  case atStart => exact ⟨0, Nat.zero_le _, rfl, Lib.hid (by simp), Lib.hid (Below.refl _ _)⟩
  case round =>
    obtain ⟨k, hk, rfl, HO, HW⟩ := hrel
    have hsz := HW.out.size
    have hlt1 : w.heap.size < wr.heap.size := by omega
    have hwne : w.heap.size ≠ wr.heap.size := by omega
    obtain ⟨y8, y9⟩ := HP.out.gn HW.out hlt
    by_cases hkn : k < nn
    · obtain ⟨nb, noff, hkl, hA, hnb, hc1, hc2⟩ := (HL0.out.below HW.out (Nat.le_refl _)).at hkn
      have HGO := Lib.hid (any_take hkl HO.out)
      have HBAD := Lib.hid (fun h : numOut gr l[k] = true => namesE_out (any_at hkl h))
      have hnw := (HNUM.out _ (List.getElem_mem hkl))
      obtain ⟨p, hp⟩ : ∃ p, p = l[k] := ⟨_, rfl⟩
      rw [← hp] at hc1 hc2 HGO HBAD hnw
      clear hp
      obtain ⟨xs, xn⟩ := p
      simp only at hc1 hc2 hnw
      unfold numOut at HGO HBAD
      simp only at HGO HBAD
      subst hA
      have hi1 : (0 : Int) ≤ (k : Int) := by omega
      have hi2 : (k : Int) < (nn : Int) := by omega
      have HBN := Lib.hid (nmB_below HW.out hsz xs xn)
      by_cases hx1 : xn < 1
      · by_cases hx2 : gr < xn
        all_goals
          go_wp2_with fail
          go_ret
          exact ⟨ret_int (HBAD.out (by simp [hx1])).symm, below_next HB.out HBN.out⟩
      · by_cases hx2 : gr < xn
        · go_wp2_with fail
          go_ret
          exact ⟨ret_int (HBAD.out (by simp [hx2])).symm, below_next HB.out HBN.out⟩
        · go_wp2_with fail
          go_roundw
          case rel => exact ⟨k + 1, by omega, by go_num, Lib.hid (HGO.out (by simp [hx1, hx2])), HBN⟩
          case measure => simp [intOf]; omega
    · obtain rfl : nn = k := by omega
      rw [List.take_of_length_le (by rw [HLEN.out]; exact Nat.le_refl _)] at HO
      have HI := Lib.hid (namesE_in HO.out)
      go_wp2_with fail
      go_loopw [33] (fun i w2 => ∃ k : Nat, k ≤ nn ∧ i = .int .i64 k ∧ Hid ((l.take k).any (fun n => !isNm n.1) = false) ∧ Hid (Below W0.heap.size W0 w2)) (fun i _ => nn - (intOf i).toNat)
      case atStart => exact ⟨0, Nat.zero_le _, rfl, Lib.hid (by simp), HW⟩
      case round =>
        clear y8 y9 hsz hlt1 hwne HW HO
        obtain ⟨k, hk, rfl, HO, HW⟩ := hrel
        have hsz := HW.out.size
        have hlt1 : w.heap.size < wr.heap.size := by omega
        have hwne : w.heap.size ≠ wr.heap.size := by omega
        obtain ⟨y8, y9⟩ := HP.out.gn HW.out hlt
        by_cases hkn : k < nn
        · obtain ⟨nb, noff, hkl, hA, hnb, hc1, hc2⟩ := (HL0.out.below HW.out (Nat.le_refl _)).at hkn
          have HGO := Lib.hid (any_take hkl HO.out)
          have HBAD := Lib.hid (any_at (p := fun n => !isNm n.1) hkl)
          have htx := HTXT.out _ (List.getElem_mem hkl)
          obtain ⟨p, hp⟩ : ∃ p, p = l[k] := ⟨_, rfl⟩
          rw [← hp] at hc1 hc2 HGO HBAD htx
          clear hp
          obtain ⟨xs, xn⟩ := p
          simp only at hc1 hc2 htx HGO HBAD
          subst hA
          have hi1 : (0 : Int) ≤ (k : Int) := by omega
          have hi2 : (k : Int) < (nn : Int) := by omega
          have HBN := Lib.hid (nmB_below HW.out hsz xs xn)
          have C := Lib.hid (fun w => isName49 xs w htx)
          clear htx
          obtain ⟨b, hb⟩ : ∃ b, b = isNm xs := ⟨_, rfl⟩
          rw [← hb] at C HGO HBAD
          clear hb
          cases b
          · go_wp2_with (go_at_call 29; refine (C.out _).mono ?_; rintro e w3 ⟨rfl, hb3⟩; have HB3 := Lib.hid hb3; clear hb3)
            go_ret
            exact ⟨ret_int (by rw [HI.out, if_pos (HBAD.out rfl)]), below_next HB.out (below_next HBN.out HB3.out)⟩
          · go_wp2_with (go_at_call 29; refine (C.out _).mono ?_; rintro e w3 ⟨rfl, hb3⟩; have HB3 := Lib.hid hb3; clear hb3)
            go_roundw
            case rel => exact ⟨k + 1, by omega, by go_num, Lib.hid (HGO.out rfl), Lib.hid (below_next HBN.out HB3.out)⟩
            case measure => simp [intOf]; omega
        · obtain rfl : nn = k := by omega
          rw [List.take_of_length_le (by rw [HLEN.out]; exact Nat.le_refl _)] at HO
          have HI2 := Lib.hid (HI.out.trans (if_neg (by rw [HO.out]; simp)))
          clear HI HO
          have HM1 := Lib.hid (World.ownsMap_made (H := Unit) wr Tryd.prog 9 pb)
          have HM1' := Lib.hid (HM1.out.alloc (.map #[] 0))
          have HM2 := Lib.hid (World.ownsMap_made (H := Unit) (wr.alloc (.map #[] 0)) Tryd.prog 3 pb)
          have HBV := Lib.hid ((HW.out.alloc hsz (.map #[] 0)).alloc (by simp; omega) (.map #[] 0))
          rw [show (wr.alloc (.map #[] 0)).heap.size = wr.heap.size + 1 by simp] at HM2
          go_wp2_with fail
          generalize hV : (wr.alloc (.map #[] 0)).alloc (.map #[] 0) = V at *
          have hvs : V.heap.size = wr.heap.size + 2 := by rw [← hV]; simp
          clear hV HM1 HW
          obtain ⟨g, hg⟩ : ∃ g, g = wr.heap.size := ⟨_, rfl⟩
          have hgw : W0.heap.size ≤ g := by rw [hg]; exact hsz
          rw [← hg] at HM1' HM2 hvs ⊢
          clear hg
          go_loopw [47] (fun i w2 => ∃ m : Nat, m ≤ nn ∧ i = .int .i64 m ∧ Hid (Below W0.heap.size W0 w2) ∧ Hid (w2.ownsMap (H := Unit) Tryd.prog 9 pb g m (.map (mapOf (strKeys (l.take m))))) ∧ Hid (w2.ownsMap (H := Unit) Tryd.prog 3 pb (g + 1) m (.map (mapOf (intKeys (l.take m)))))) (fun i _ => nn - (intOf i).toNat)
          case atStart => exact ⟨0, Nat.zero_le _, rfl, HBV, HM1', HM2⟩
          case round =>
            clear y8 y9 hsz hlt1 hwne HM1' HM2 HBV
            obtain ⟨m, hm, rfl, HW, HM1, HM2⟩ := hrel
            have hsz := HW.out.size
            have hlt1 : w.heap.size < wr.heap.size := by omega
            have hwne : w.heap.size ≠ wr.heap.size := by omega
            obtain ⟨y8, y9⟩ := HP.out.gn HW.out hlt
            by_cases hkn : m < nn
            · obtain ⟨nb, noff, hkl, hA, hnb, hc1, hc2⟩ := (HL0.out.below HW.out (Nat.le_refl _)).at hkn
              have HTK := Lib.hid (List.take_succ_eq_append_getElem hkl)
              have htx := HTXT.out _ (List.getElem_mem hkl)
              have hnw := HNUM.out _ (List.getElem_mem hkl)
              obtain ⟨p, hp⟩ : ∃ p, p = l[m] := ⟨_, rfl⟩
              rw [← hp] at hc1 hc2 HTK htx hnw
              clear hp
              obtain ⟨xs, xn⟩ := p
              simp only at hc1 hc2 htx hnw
              subst hA
              have hi1 : (0 : Int) ≤ (m : Int) := by omega
              have hi2 : (m : Int) < (nn : Int) := by omega
              have hl1 := HM1.out.lt
              have hl2 := HM2.out.lt
              obtain ⟨w5, hr5, ho5, hg5⟩ := (HM1.out.alloc (.cells #[.string xs, .int .i64 xn] 49)).drew.update (string_keyed Tryd.underlying9) Tryd.underlying68 (by unfold maxLen; omega) (key := .string xs) (val := .bool true) (WideMaps.keyOf_string_mk Tryd.underlying9 htx) (plainElem_bool Tryd.underlying4 true)
              obtain ⟨w6, hr6, ho6, hg6⟩ := (((HM2.out.alloc (.cells #[.string xs, .int .i64 xn] 49)).drew).kept hg5 (by simp)).update (int_keyed Tryd.underlying3) Tryd.underlying69 (by unfold maxLen; omega) (key := .int .i64 xn) (val := .bool true) (keyOf_int_mk Tryd.underlying3 hnw) (plainElem_bool Tryd.underlying4 true)
              have ha0 := heap_alloc_new wr (.cells #[.string xs, .int .i64 xn] 49)
              have X1 : (wr.alloc (.cells #[.string xs, .int .i64 xn] 49)).cell? ⟨wr.heap.size, 0, none⟩ = some (.string xs) := by rw [cell_of_row _ _ _ _ 49 (0, 0) ha0]; rfl
              have X2 : (wr.alloc (.cells #[.string xs, .int .i64 xn] 49)).cell? ⟨wr.heap.size, 1, none⟩ = some (.int .i64 xn) := by rw [cell_of_row _ _ _ _ 49 (0, 0) ha0]; rfl
              have ne1 : some wr.heap.size ≠ some g := by simp; omega
              have ne2 : some wr.heap.size ≠ some (g + 1) := by simp; omega
              have Y : Hid (w5.cell? ⟨wr.heap.size, 0, none⟩ = some (.string xs) ∧ w5.cell? ⟨wr.heap.size, 1, none⟩ = some (.int .i64 xn)) := Lib.hid ⟨hg5.cell X1 ne1, hg5.cell X2 ne1⟩
              have Z : Hid (w6.cell? ⟨wr.heap.size, 0, none⟩ = some (.string xs) ∧ w6.cell? ⟨wr.heap.size, 1, none⟩ = some (.int .i64 xn)) := Lib.hid ⟨hg6.cell Y.out.1 ne2, hg6.cell Y.out.2 ne2⟩
              have HB5 := Lib.hid (Below.grown (show Below W0.heap.size W0 (wr.alloc (.cells #[.string xs, .int .i64 xn] 49)).drew from below_drewN (HW.out.alloc hsz _) 1) hg5 (show W0.heap.size ≤ (wr.alloc _).heap.size by simp; omega) (fun k hk => by cases hk; omega))
              have HB6 := Lib.hid (Below.grown HB5.out hg6 (by have := HB5.out.size; exact this) (fun k hk => by cases hk; omega))
              rw [put_mapOf] at ho5 ho6
              have HO6 := Lib.hid ho6
              have HO5 := Lib.hid (World.ownsMap.kept (w := w5) ho5 hg6 (by simp))
              clear ho5 ho6 htx hnw
              go_upto_region 17 with (fail)
              go_region_held3 (fun w' => w'.cell? ⟨wr.heap.size, 0, none⟩ = some (.string xs) ∧ w'.cell? ⟨wr.heap.size, 1, none⟩ = some (.int .i64 xn)) (first | exact Y.out | exact Z.out | go_keep) (fail)
              go_wp2_with fail
              go_roundw
              case rel =>
                refine ⟨m + 1, by omega, by go_num, HB6, Lib.hid ?_, Lib.hid ?_⟩
                · rw [HTK.out, strKeys_snoc]; exact HO5.out
                · rw [HTK.out, intKeys_snoc]; exact HO6.out
              case measure => simp [intOf]; omega
            · obtain rfl : nn = m := by omega
              rw [List.take_of_length_le (by rw [HLEN.out]; exact Nat.le_refl _)] at HM1 HM2
              obtain ⟨es1, ck1, hb1, hs1⟩ := ownsMap_len HM1.out
              obtain ⟨es2, ck2, hb2, hs2⟩ := ownsMap_len HM2.out
              have hl1 := run_len_map wr 68 3 g es1 ck1 und77 hb1
              have hl2 := run_len_map wr 69 3 (g + 1) es2 ck2 und78 hb2
              have HTW := Lib.hid (twice_iff (H := Unit) l)
              rw [← hs1, ← hs2, HLEN.out] at HTW
              clear hb1 hb2 hs1 hs2 HM1 HM2
              obtain ⟨s1, hs1⟩ : ∃ s, s = es1.size := ⟨_, rfl⟩
              obtain ⟨s2, hs2⟩ : ∃ s, s = es2.size := ⟨_, rfl⟩
              rw [← hs1] at hl1 HTW
              rw [← hs2] at hl2 HTW
              clear hs1 hs2
              by_cases h1 : s1 < nn
              · have HR := Lib.hid (HI2.out.trans (if_pos (HTW.out.2 (.inl h1))))
                by_cases h2 : s2 < nn
                all_goals
                  go_wp2_with fail
                  go_ret
                  exact ⟨ret_int HR.out.symm, below_next HB.out HW.out⟩
              · by_cases h2 : s2 < nn
                · have HR := Lib.hid (HI2.out.trans (if_pos (HTW.out.2 (.inr h2))))
                  go_wp2_with fail
                  go_ret
                  exact ⟨ret_int HR.out.symm, below_next HB.out HW.out⟩
                · have HR := Lib.hid (HI2.out.trans (if_neg (fun h => by rcases HTW.out.1 h with h | h <;> omega)))
                  clear HI2 HTW
                  go_wp2_with fail
                  clear hl1 hl2
                  go_loopw [11] (fun i w2 => ∃ k : Nat, k ≤ nn ∧ i = .int .i64 (k + 1 : Nat) ∧ Hid (Below W0.heap.size W0 w2) ∧ Hid (OrdTo l (k + 1))) (fun i _ => nn + 1 - (intOf i).toNat)
                  case atStart => exact ⟨0, Nat.zero_le _, rfl, HW, Lib.hid (OrdTo.one l)⟩
                  case round =>
                    clear y8 y9 hsz hlt1 hwne HW
                    obtain ⟨k, hk, rfl, HW, HO⟩ := hrel
                    have hsz := HW.out.size
                    obtain ⟨y8, y9⟩ := HP.out.gn HW.out hlt
                    by_cases hkn : k + 1 < nn
                    · obtain ⟨nb, noff, hkl, hA, hnb, hc1, hc2⟩ := (HL0.out.below HW.out (Nat.le_refl _)).at (k := k) (by omega)
                      obtain ⟨nb2, noff2, hkl2, hA2, hnb2, hd1, hd2⟩ := (HL0.out.below HW.out (Nat.le_refl _)).at hkn
                      subst hA
                      injection hA2 with hA2
                      injection hA2 with e1 e2
                      subst e1 e2
                      have HGO := Lib.hid (HO.out.succ hkl2)
                      have HBAD := Lib.hid (fun h => HR.out.trans (if_pos (show Falls l from ⟨k, hkl2, h⟩)))
                      obtain ⟨p, hp⟩ : ∃ p, p = l[k] := ⟨_, rfl⟩
                      obtain ⟨q', hq⟩ : ∃ q, q = l[k + 1] := ⟨_, rfl⟩
                      rw [← hp] at hc1 hc2 HGO HBAD
                      rw [← hq] at hd1 hd2 HGO HBAD
                      clear hp hq
                      obtain ⟨xs, xn⟩ := p
                      obtain ⟨ys, yn⟩ := q'
                      simp only at hc1 hc2 hd1 hd2 HGO HBAD
                      have i1 : (0 : Int) ≤ (k : Int) := by omega
                      have i2 : (k : Int) + 1 < (nn : Int) := by omega
                      have i3 : (k : Int) < (nn : Int) := by omega
                      have w1 : IntKind.i64.wrap ((k : Int) + 1 - 1) = (k : Int) := by rw [IntWalk.i64_in _ (by omega)]; omega
                      by_cases hlt2 : yn < xn
                      · go_upto_region 24 with (fail)
                        go_quiet (fail)
                        go_wp2_with fail
                        go_ret
                        exact ⟨ret_int (HBAD.out hlt2).symm, below_drewN (below_next HB.out HW.out) _⟩
                      · go_upto_region 24 with (fail)
                        go_quiet (fail)
                        go_wp2_with fail
                        go_roundw
                        case rel => exact ⟨k + 1, by omega, by go_num, Lib.hid (below_drewN HW.out _), Lib.hid (HGO.out (by omega))⟩
                        case measure => simp [intOf]; omega
                    · have HF := Lib.hid (HR.out.trans (if_neg (HO.out.not_falls (by rw [HLEN.out]; omega))))
                      go_wp2_with fail
                      go_ret
                      exact ⟨ret_int HF.out.symm, below_next HB.out HW.out⟩
end Go.Proofs.YtbekjfoefjnidaaDoor
