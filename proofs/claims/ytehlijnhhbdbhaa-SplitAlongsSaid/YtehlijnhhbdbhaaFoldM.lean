/- join of the program: walked (the code of Raw, behind Concat). -/
import Derived.Test.YtehlijnhhbdbhaaSetQ
import Derived.Test.YtehlijnhhbdbhaaSetY
import Derived.Test.YtehlijnhhbdbhaaFoldL
namespace Go.Proofs.Ytehlijnhhbdbhaa
open Go.RowKit Go.Sort Go.Shelf Go.Lib
set_option linter.unusedVariables false
def SortC2 : Prop := ∀ (l : List (Int × Int)) (A : Option Addr) (n c base : Nat) (w : World), n ≤ 1000000 → (∀ r ∈ l, okR r = true) → w.ownsRow base 44 2 (.slice A n c) n (rngs l) →
  Calls Try.prog 118 #[.slice A n c, .func (.func 156) #[] #[]] w fun e w' => e = .returned (.tuple #[]) ∧ ∃ l', l'.Perm l ∧ l'.Pairwise (fun r s => r.1 ≤ s.1) ∧ Rds w' w'.heap.size 2 A n (rngs l') ∧ Below base w w'
open Go.Sort in
set_option maxHeartbeats 1000000 in
theorem cmp156 (x y u v : Int) (w : World) (hx : 0 ≤ x ∧ x ≤ 1114111) (hu : 0 ≤ u ∧ u ≤ 1114111) :
    Calls Try.prog 156 #[.agg #[.int .i64 x, .int .i64 y], .agg #[.int .i64 u, .int .i64 v]] w fun e w' => e = .returned (.int .i64 (x - u)) ∧ ∃ q os', w' = grow (w.drewN q) os' := by
  obtain ⟨x0, x1⟩ := hx
  obtain ⟨u0, u1⟩ := hu
  go_enter Try.func156, Try.ntmps156
  go_wp2
  go_ret
  exact ⟨rfl, 0, _, by rw [alloc_eq_grow, alloc_eq_grow, grow_grow]; rfl⟩
theorem cmpLays156 (blk off size : Nat) (w : World) : CmpLays Try.prog 156 #[] encRR 2 cfRR blk off size w := fun _ _ _ _ x y => by
  have hx := (okR_iff _).1 x.2
  have hy := (okR_iff _).1 y.2
  exact cmp156 x.1.1 x.1.2 y.1.1 y.1.2 _ (by omega) (by omega)
theorem sortC2 : SortC2 := by
  intro l A n c base w hn hok hown
  have hl := own_rngs_len hown
  rcases Nat.eq_zero_or_pos n with h0 | h0
  · subst h0
    have hl0 : l = [] := List.eq_nil_of_length_eq_zero hl.symm
    subst hl0
    exact (AnyF.slices_SortFunc_none Try.sortRng A c (.func (.func 156) #[] #[]) w).mono fun e w' ⟨he, hw⟩ => ⟨he, [], .refl _, .nil, Rds.nil_ _ _ _ _, by rw [hw]; exact Below.refl _ _⟩
  · obtain ⟨g, cap, hv, hg, hlt⟩ := hown.form h0
    have hA : A = some ⟨g, 0, none⟩ := by injection hv
    subst hA
    obtain ⟨d, hd⟩ : ∃ d : Array RR, d = (l.map toRR).toArray := ⟨_, rfl⟩
    have hds : d.size = n := by rw [hd]; simp [hl]
    have hdv : ∀ i (hi : i < d.size) (hi' : i < l.length), (d[i]).1 = l[i] := fun i hi hi' => by
      subst hd
      simp only [List.getElem_toArray, List.getElem_map]
      exact toRR_val (hok _ (List.getElem_mem hi'))
    have hfz : ∀ o, w.frozen? ⟨g, o, none⟩ = false := fun o => by
      rcases hown.2 with ⟨h, _⟩ | ⟨g', cap', cur, hv', _, hh, _⟩
      · cases h
      · have : g = g' := by injection hv' with h1; injection h1 with h1; injection h1
        subst this
        simp [World.frozen?, hh]
    have hcell := Rds.of_own hown
    obtain ⟨b', o', e1, _, hc⟩ := hcell.2 h0
    obtain ⟨rfl, rfl⟩ : g = b' ∧ 0 = o' := by injection e1 with e1; injection e1 with e1 e2; exact ⟨e1, e2⟩
    have hH : HoldsK encRR 2 w g 0 d := by
      intro j hj
      have hj2 : j < d.size * 2 := by rw [(flat_get d 0 (by omega)).1] at hj; exact hj
      refine ⟨?_, hfz _⟩
      have q := rngs_flat l j (by omega)
      have f := (flat_get d j hj2).2
      rw [hc j _ q, f]
      rw [hdv _ _ (by omega)]
      rfl
    have hs := AnyQ.slices_SortFunc Try.sortRng 2 isAgg44 sizeOf44 encRR (fun _ => rfl) (fun x v hv => by simp [encRR] at hv; rcases hv with rfl | rfl <;> rfl) cfRR swoRR 156 #[] g 0 c d w (enters_of Try.func156 (by kernel_rfl) rfl) (cmpLays156 g 0 d.size w) hH hlt (by omega)
    rw [hds] at hs
    refine Calls.mono hs ?_
    rintro e w' ⟨he, d', q, os, hp, hso, rfl⟩
    obtain ⟨hsz, _, hperm⟩ := hp
    have hbase : base ≤ w.heap.size := by omega
    refine ⟨he, d'.toList.map (·.1), ?_, ?_, ?_, ?_⟩
    · have e1 : (d'.extract 0 n).toList = d'.toList := by rw [show n = d'.size by omega]; simp
      have e2 : (d.extract 0 n).toList = d.toList := by rw [show n = d.size by omega]; simp
      rw [e1, e2] at hperm
      have hl2 : d.toList.map (·.1) = l := by
        refine List.ext_getElem (by simp [hds, hl]) fun i h1 h2 => ?_
        rw [List.getElem_map]
        exact hdv i (by simpa using h1) h2
      rw [← hl2]
      exact hperm.map _
    · rw [List.pairwise_map, List.pairwise_iff_getElem]
      intro i j hi hj hij
      have := hso i j (Nat.zero_le _) hij (by simp at hj; omega)
      rw [getElem!_pos d' i (by simpa using hi), getElem!_pos d' j (by simpa using hj), ltRR] at this
      have := of_decide_eq_false this
      simp only [Array.getElem_toList]
      omega
    · have hH2 : HoldsK encRR 2 (sortWorldK encRR 2 w g 0 q d' os) g 0 d' := by
        have k1 : HoldsK encRR 2 (putRowK encRR 2 (Sort.ahead w q) g 0 d') g 0 d' := holdsK_putRowK (enc := encRR) (k := 2) (Sort.ahead w q) g 0 d d' hH (by omega)
        exact holds_grow id _ os g 0 _ (by rw [size_putRowK]; exact hlt) k1
      refine ⟨by rw [rngs_length, List.length_map, Array.length_toList]; omega, fun _ => ⟨g, 0, rfl, ?_, fun j u hu => ?_⟩⟩
      · show g < (grow _ os).heap.size
        have : g < (putRowK encRR 2 (Sort.ahead w q) g 0 d').heap.size := by rw [size_putRowK]; exact hlt
        simp only [grow, Array.size_append]; omega
      · have hj : j < d'.size * 2 := by
          rcases Nat.lt_or_ge j (d'.size * 2) with h | h
          · exact h
          · rw [List.getElem?_eq_none (by rw [rngs_length, List.length_map, Array.length_toList]; exact h)] at hu; cases hu
        have f := flat_get d' j hj
        have c := (hH2 j (by rw [f.1]; exact hj)).1
        rw [f.2] at c
        rw [rngs_flat _ j (by rw [List.length_map, Array.length_toList]; exact hj)] at hu
        injection hu with hu
        rw [c, ← hu]
        simp only [List.getElem_map, Array.getElem_toList]
        rfl
    · exact below_grow (below_putRow (Below.refl base w) hg) hbase os

end Go.Proofs.Ytehlijnhhbdbhaa
namespace Go.Proofs.Ytehlijnhhbdbhaa
open Go.RowKit
set_option maxRecDepth 100000 in
set_option maxHeartbeats 2000000 in
theorem join134 (HSORT : Hid SortC2) (ls : List (List (Int × Int))) (vs : List Value) (A0 : Option Addr) (n0 c0 : Nat) (w : World) (hn0 : n0 ≤ 1000) (hv : Rds w w.heap.size 1 A0 n0 vs) (hs : Sls w w.heap.size vs ls) (ht : total ls ≤ 100000) (hok : ∀ r ∈ ls.flatten, okR r = true) :
    Calls Try.prog 134 #[.slice A0 n0 c0] w fun e w' => ∃ out, IsSet out (mem ls.flatten) ∧ out.length ≤ total ls ∧ OwnRngs w out e w' := by
  have C0 := Lib.hid (concat86 ls vs A0 n0 c0 w (by omega) hv hs (by omega))
  have HOK := Lib.hid hok
  have hn := ht
  obtain ⟨l, hl⟩ : ∃ l, l = ls.flatten := ⟨_, rfl⟩
  rw [← hl] at C0 HOK
  have HA := Lib.hid (show l.length = total ls by rw [hl]; rfl)
  rw [← hl]
  obtain ⟨n, hnn⟩ : ∃ n, n = total ls := ⟨_, rfl⟩
  rw [← hnn] at hn HA ⊢
  clear hok hl hnn ht
  go_enter Try.func134, Try.ntmps134
  go_wp2_with fail
  refine C0.out.mono ?_
  rintro e w1 ⟨A1, n1, c1, rfl, hown, hb1⟩
  have hn1 : n1 = n := by rw [own_rngs_len hown, HA.out]
  subst hn1
  obtain ⟨_, _, hv1, q1, q2⟩ := own_slice hown
  injection hv1 with e1 e2 e3
  subst e1 e3
  clear e2 hv hs
  go_wp2_with fail
  refine (HSORT.out l A1 n1 c1 w.heap.size w1 (by omega) HOK.out hown).mono ?_
  rintro e w2 ⟨rfl, l', hperm, hsorted, hr, hb2⟩
  have HP := Lib.hid hperm
  have HS := Lib.hid hsorted
  have HL' := Lib.hid hr.rngs_len
  have HOK' := Lib.hid (show ∀ r ∈ l', okR r = true from fun r hr => HOK.out r (hperm.mem_iff.1 hr))
  have hz1 := hb1.size
  have hz2 := hb2.size
  clear hperm hsorted hown
  unfold maxLen at q2
  go_wp2_with fail
  go_loopw [4, 14] (fun v i wr => ∃ (k t : Nat) (out : List (Int × Int)), k ≤ n1 ∧ i = .int .i64 k ∧ t ≤ k ∧ RawSt l' k out ∧ wr.ownsRow w2.heap.size 44 2 v t (rngs out) ∧ Below w2.heap.size w2 wr) (fun _ i _ => n1 - (intOf i).toNat)
  case atStart => exact ⟨0, 0, [], Nat.zero_le _, rfl, Nat.le_refl _, RawSt.start l', World.ownsRow_nil _ _ _ _, Below.refl _ _⟩
  case round =>
    obtain ⟨k, t, out, hk, rfl, ht, hst, hout, hB⟩ := hrel
    obtain ⟨Ao, co, rfl, hoc, hco⟩ := own_slice hout
    unfold maxLen at hco
    have hsz := hB.size
    have HST := Lib.hid hst
    clear hst
    by_cases hlt : k < n1
    · obtain ⟨bl, ol, hl1, hA, hbl, hc1, hd1⟩ := (hr.below hB (Nat.le_refl _)).rng_at hlt
      subst hA
      have hr' := (okR_iff _).1 (HOK'.out _ (List.getElem_mem hl1))
      have HNX := Lib.hid (HST.out.step HS.out HOK'.out hl1)
      obtain ⟨p, hp⟩ : ∃ p, p = l'[k] := ⟨_, rfl⟩
      rw [← hp] at hc1 hd1 hr' HNX
      clear hp
      obtain ⟨x, y⟩ := p
      simp only at hc1 hd1 hr'
      obtain ⟨r0, r1, r2⟩ := hr'
      have HNB := Lib.hid (show (some wr.heap.size : Option Nat) ≠ (Value.slice Ao t co).ownBlock from fun e => by have := hout.lt _ e.symm; omega)
      have R0 := Rds.new (wr.alloc (.cells #[.int .i64 x, .int .i64 y] 44)) 2 1 #[.int .i64 x, .int .i64 y] 44 (rngs [(x, y)]) rfl rfl
      rw [show (wr.alloc (.cells #[.int .i64 x, .int .i64 y] 44)).heap.size = wr.heap.size + 1 by simp] at R0
      have R := Lib.hid R0
      clear R0
      rcases snoc_cases out with rfl | ⟨o, s, rfl⟩
      · obtain rfl : t = 0 := own_rngs_len hout
        go_wp2_with fail
        go_quiet (fail)
        go_wp2_with (at_builtin; refine app_rngs (.tmp 48) (.tmp 50) (base := w2.heap.size) (xs := []) (n := 0) (by exact (hout.alloc _).alloc _) R.out (by omega) (by simp; omega) rfl rfl rfl rfl ?_; intro v3 w3 hown3 hg3 hat3)
        go_roundw
        case rel => exact ⟨k + 1, 1, [(x, y)], by omega, by go_num, by omega, HNX.out, hown3, (((below_drewN (hB.alloc hsz _) _).alloc (by simp; omega) _).grown hg3 (by simp; omega) (fun g hg => (hout.lt g hg).1))⟩
        case measure => simp [intOf]; omega
      · obtain ⟨gl, hAo, hgl, hgl2, htl, htc, hca, hcb, hfz, hst⟩ := own_last hout
        obtain ⟨gz, hgz, -, -, -, -, -, -, -, hst2⟩ := own_last (hout.alloc (.cells #[.int .i64 x, .int .i64 y] 44))
        obtain ⟨u, hu⟩ : ∃ u, u = o.length := ⟨_, rfl⟩
        rw [← hu] at hca hcb hfz hst2 htl
        have HU := Lib.hid hu
        clear hu
        obtain rfl : t = u + 1 := htl
        obtain ⟨sa, sb⟩ := s
        simp only at hca hcb hst2
        have hsb := (okR_iff _).1 (HST.out.1.1.1 (sa, sb) (by simp))
        simp only at hsb
        obtain ⟨s0, s1, s2⟩ := hsb
        subst hAo
        obtain rfl : gl = gz := by injection hgz with hgz; injection hgz
        have HSTO := Lib.hid hst2
        clear hst hst2 hca hgz
        have u1 : (0 : Int) ≤ (u : Int) := by omega
        have u2 : (0 : Int) < (u : Int) + 1 := by omega
        have W1 := Lib.hid (show IntKind.i64.wrap ((u : Int) + 1 - 1) = (u : Int) by rw [IntWalk.i64_in _ (by omega)]; omega)
        have W2 := Lib.hid (show IntKind.i64.wrap (sb + 1) = sb + 1 from IntWalk.i64_in _ (by omega))
        have u3 : (u : Int) < (u : Int) + 1 := by omega
        have hcb' : (wr.alloc (.cells #[.int .i64 x, .int .i64 y] 44)).cell? ⟨gl, u * 2 + 1, none⟩ = some (.int .i64 sb) := by rw [World.cell?_alloc_lt _ _ ⟨gl, u * 2 + 1, none⟩ hgl2]; exact hcb
        have hfz' : (wr.alloc (.cells #[.int .i64 x, .int .i64 y] 44)).frozen? ⟨gl, u * 2 + 1, none⟩ = false := by rw [World.frozen?_of_block (w := wr) (a := ⟨gl, u * 2 + 1, none⟩) (Below.heap_alloc wr _ gl hgl2)]; exact hfz
        by_cases hj : x ≤ sb + 1
        · by_cases hm : sb < y
          · have HMX := Lib.hid (show max sb y = y by omega)
            go_wp2_with fail
            have z1 := W1.out
            have z2 := W2.out
            go_quiet (fail)
            go_wp2_with fail
            have w9 : IntKind.i64.wrap (u : Int) = (u : Int) := IntWalk.i64_in _ (by clear z1 z2; omega)
            go_region
            clear z1 z2 w9
            go_wp2
            go_roundw
            case rel => exact ⟨k + 1, u + 1, o ++ [(sa, y)], by omega, by go_num, by omega, (by have := HNX.out; rw [rawStep_snoc, if_pos hj] at this; rw [← HMX.out]; exact this), (by rw [HMX.out]; exact HSTO.out y), (below_drewN (hB.alloc hsz _) _).setCell hgl _⟩
            case measure => simp [intOf]; omega
          · have HMX := Lib.hid (show max sb y = sb by omega)
            go_wp2_with fail
            have z1 := W1.out
            have z2 := W2.out
            go_quiet (fail)
            go_wp2_with fail
            have w9 : IntKind.i64.wrap (u : Int) = (u : Int) := IntWalk.i64_in _ (by clear z1 z2; omega)
            go_region
            clear z1 z2 w9
            go_wp2
            go_roundw
            case rel => exact ⟨k + 1, u + 1, o ++ [(sa, sb)], by omega, by go_num, by omega, (by have := HNX.out; rw [rawStep_snoc, if_pos hj] at this; rw [← HMX.out]; exact this), (by rw [HMX.out]; exact HSTO.out sb), (below_drewN (hB.alloc hsz _) _).setCell hgl _⟩
            case measure => simp [intOf]; omega
        · go_wp2_with fail
          have z1 := W1.out
          have z2 := W2.out
          go_quiet (fail)
          clear z1 z2
          go_wp2_with (at_builtin; refine app_rngs (.tmp 48) (.tmp 50) (base := w2.heap.size) (xs := o ++ [(sa, sb)]) (n := u + 1) (by exact (hout.alloc _).alloc _) R.out (by omega) (by simp; omega) rfl rfl rfl rfl ?_; intro v3 w3 hown3 hg3 hat3)
          go_roundw
          case rel => exact ⟨k + 1, u + 1 + 1, o ++ [(sa, sb)] ++ [(x, y)], by omega, by go_num, by omega, (by have := HNX.out; rw [rawStep_snoc, if_neg (by omega)] at this; exact this), hown3, (((below_drewN (hB.alloc hsz _) _).alloc (by simp; omega) _).grown hg3 (by simp; omega) (fun g hg => (hout.lt g hg).1))⟩
          case measure => simp [intOf]; omega
    · obtain rfl : k = n1 := by omega
      have HT := Lib.hid (show l'.take k = l' from List.take_of_length_le (by rw [HL'.out]; exact Nat.le_refl _))
      go_wp2
      go_ret
      refine ⟨out, ⟨HST.out.1.1, fun p => ?_⟩, by rw [← own_rngs_len hout]; omega, ownRngs_of rfl (own_mono hout (by omega)) ((hb1.trans hb2).trans (hB.mono (by omega)))⟩
      rw [HST.out.1.2 p, HT.out]
      exact mem_perm HP.out p
end Go.Proofs.Ytehlijnhhbdbhaa
