/- slices.Grow and slices.Concat at ranges, walked. -/
import Derived.Test.YtbiahhojnjchnaaGreatGC
import Derived.Test.YtbiahhojnjchnaaGreatSetF
import Derived.Lib.AppendZeros
set_option linter.unusedVariables false
set_option linter.unusedSimpArgs false
namespace Go.Proofs.YtbiahhojnjchnaaGreat
open Go.RowKit
set_option maxRecDepth 100000 in
set_option maxHeartbeats 1000000 in
theorem grow121 (n : Nat) (w : World) (hn : n ≤ 100000000) :
    Calls Tryz.prog 226 #[.slice none 0 0, .int .i64 n] w (OwnRngs w []) := by
  rcases Nat.eq_zero_or_pos n with h0 | h0
  · subst h0
    go_enter Tryz.func226, Tryz.ntmps226
    go_wp2
    go_ret
    exact ownRngs_of rfl (World.ownsRow_nil _ _ _ _) (Below.refl _ _)
  · obtain ⟨i0, hi0, hz0, hz1, hz2⟩ := info_parts rng_info
    have hg := grownCap_ge w n 0 67
    have hgm := grownCap_le_maxLen w n 0 67 (by unfold maxLen; omega)
    have hrun := fun ty => Lib.run_append_nil_zeros (P := Tryz.prog) w 23 3 ty 67 i0 _ .i64 .i64 Tryz.underlying23 Tryz.underlying3 hi0 hz0 n h0 (by rw [hz1]; decide) (by omega) (by rw [hz2]; omega)
    have hown : (w.drew.alloc (.cells (Builtin.zeroCells (Value.agg #[.int .i64 0, .int .i64 0]).cells n ++ Builtin.zeroCells (Value.agg #[.int .i64 0, .int .i64 0]).cells (grownCap w n 0 67 - n)) 67)).ownsRow w.heap.size 67 2 (.slice (some ⟨w.heap.size, 0, none⟩) 0 (grownCap w n 0 67)) 0 (rngs []) := by
      refine World.ownsRow_made w.drew _ _ (Nat.le_refl _) hgm ?_
      rw [Array.size_append, size_zeroCells, size_zeroCells, ← Nat.add_mul, show n + (grownCap w n 0 67 - n) = grownCap w n 0 67 from by omega]; rfl
    generalize (Builtin.zeroCells (Value.agg #[.int .i64 0, .int .i64 0]).cells n ++ Builtin.zeroCells (Value.agg #[.int .i64 0, .int .i64 0]).cells (grownCap w n 0 67 - n)) = cs at hrun hown
    obtain ⟨G, hG⟩ : ∃ G, G = grownCap w n 0 67 := ⟨_, rfl⟩
    rw [← hG] at hrun hown hg hgm
    have HR := Lib.hid hrun
    have HO := Lib.hid hown
    clear hrun hown hG
    unfold maxLen at hgm
    have hi : (0 : Int) < (n : Int) := by omega
    go_enter Tryz.func226, Tryz.ntmps226
    go_wp2_with (at_builtin; refine Lib.wpList_append_run _ rfl _ _ _ _ rfl _ _ rfl rfl _ _ (HR.out _) ?_)
    go_ret
    exact ownRngs_of rfl HO.out (((Below.refl _ _).drew).alloc (Nat.le_refl _) _)
def total (ls : List (List (Int × Int))) : Nat := ls.flatten.length
theorem total_take (ls : List (List (Int × Int))) (k : Nat) (h : k < ls.length) : total (ls.take (k + 1)) = total (ls.take k) + ls[k].length := by
  unfold total; rw [take_snoc' ls k h, List.flatten_append, List.length_append, List.flatten_cons, List.flatten_nil, List.append_nil]
theorem total_le (ls : List (List (Int × Int))) (k : Nat) : total (ls.take k) ≤ total ls := by
  unfold total
  conv => rhs; rw [← List.take_append_drop k ls, List.flatten_append, List.length_append]
  omega
theorem flat_take (ls : List (List (Int × Int))) (k : Nat) (h : k < ls.length) : (ls.take (k + 1)).flatten = (ls.take k).flatten ++ ls[k] := by
  rw [take_snoc' ls k h, List.flatten_append, List.flatten_cons, List.flatten_nil, List.append_nil]
theorem Sls.at_ {w : World} {X : Nat} {vs : List Value} {ls : List (List (Int × Int))} (h : Sls w X vs ls) {k : Nat} (hk : k < vs.length) (hl : k < ls.length) :
    ∃ A n c, vs[k]? = some (.slice A n c) ∧ n ≤ c ∧ c ≤ maxLen ∧ n = ls[k].length ∧ Rds w X 2 A n (rngs ls[k]) := by
  obtain ⟨A, n, c, e, h1, h2, h3⟩ := h.2 k hk hl
  exact ⟨A, n, c, by rw [List.getElem?_eq_getElem hk, e], h1, h2, h3.rngs_len.symm, h3⟩
set_option maxRecDepth 100000 in
set_option maxHeartbeats 1000000 in
theorem concat86 (ls : List (List (Int × Int))) (vs : List Value) (A : Option Addr) (n c : Nat) (w : World) (hn : n ≤ 1000000) (hv : Rds w w.heap.size 1 A n vs) (hs : Sls w w.heap.size vs ls) (ht : total ls ≤ 1000000) :
    Calls Tryz.prog 219 #[.slice A n c] w (OwnRngs w ls.flatten) := by
  have HV := Lib.hid (show vs.length = n by have := hv.1; omega)
  have HL := Lib.hid (show ls.length = n by rw [← hs.1]; exact HV.out)
  have HG := Lib.hid (fun n w hn => grow121 n w hn)
  go_enter Tryz.func219, Tryz.ntmps219
  go_wp2_with fail
  go_loopw [3, 11] (fun s i wr => ∃ k : Nat, k ≤ n ∧ i = .int .i64 k ∧ s = .int .i64 (total (ls.take k)) ∧ ∃ q, wr = w.drewN q) (fun _ i _ => n - (intOf i).toNat)
  case atStart => exact ⟨0, Nat.zero_le _, rfl, rfl, 0, rfl⟩
  case round =>
    obtain ⟨k, hk, rfl, rfl, q, rfl⟩ := hrel
    have htk := total_le ls k
    by_cases hlt : k < n
    · obtain ⟨bv, ov, rfl, hbv, hcv⟩ := hv.2 (by omega)
      have hkv : k < vs.length := by rw [HV.out]; exact hlt
      have hka : k < ls.length := by rw [HL.out]; exact hlt
      obtain ⟨A1, n1, c1, hvk, hnc1, hc1, hnl, hr1⟩ := hs.at_ hkv hka
      have hcell : (w.drewN q).cell? ⟨bv, ov + k, none⟩ = some (.slice A1 n1 c1) := hcv k _ hvk
      have HT := Lib.hid (total_take ls k hka)
      have hle := total_le ls (k + 1)
      rw [HT.out, ← hnl] at hle
      have HNL := Lib.hid hnl
      clear hvk hr1 hcv hnl
      unfold maxLen at hc1
      obtain ⟨t, hte⟩ : ∃ t, t = total (ls.take k) := ⟨_, rfl⟩
      rw [← hte] at htk hle HT ⊢
      clear hte
      go_wp2
      go_roundw
      case rel => exact ⟨k + 1, by omega, by go_num, by rw [HT.out, HNL.out]; go_num, q, rfl⟩
      case measure => simp [intOf]; omega
    · obtain rfl : k = n := by omega
      have HT := Lib.hid (show ls.take k = ls from List.take_of_length_le (by rw [HL.out]; exact Nat.le_refl _))
      go_wp2_with fail
      refine (HG.out _ _ (by omega)).mono ?_
      rintro e w1 ⟨A2, n2, c2, rfl, hown, hb⟩
      have hn2 : n2 = 0 := own_rngs_len hown
      subst hn2
      go_wp2_with fail
      go_loopw [6, 27] (fun v i wr => ∃ j t : Nat, j ≤ k ∧ i = .int .i64 j ∧ t = total (ls.take j) ∧ wr.ownsRow w.heap.size 67 2 v t (rngs (ls.take j).flatten) ∧ Below w.heap.size w wr) (fun _ i _ => k - (intOf i).toNat)
      case atStart => exact ⟨0, 0, Nat.zero_le _, rfl, rfl, by simpa using hown, (below_drewN (Below.refl _ _) q).trans hb⟩
      case round =>
        obtain ⟨j, t, hj, rfl, hte, hown, hB⟩ := hrel
        obtain ⟨Av, cv, rfl, hmc, hcv⟩ := own_slice hown
        unfold maxLen at hcv
        have htj := total_le ls j
        rw [← hte] at htj
        have HTE := Lib.hid hte
        clear hte
        by_cases hlt : j < k
        · obtain ⟨bv, ov, rfl, hbv, hcv'⟩ := hv.2 (by omega)
          have hkv : j < vs.length := by rw [HV.out]; exact hlt
          have hka : j < ls.length := by rw [HL.out]; exact hlt
          obtain ⟨A1, n1, c1, hvk, hnc1, hc1, hnl, hr1⟩ := hs.at_ hkv hka
          have hcell : wr.cell? ⟨bv, ov + j, none⟩ = some (.slice A1 n1 c1) := by
            rw [hB.cell (p := ⟨bv, ov + j, none⟩) hbv]; exact hcv' j _ hvk
          have HT2 := Lib.hid (total_take ls j hka)
          have HF := Lib.hid (flat_take ls j hka)
          have hle := total_le ls (j + 1)
          rw [HT2.out, ← hnl, ← HTE.out] at hle
          have HNL := Lib.hid hnl
          have HR := Lib.hid (hr1.below hB (Nat.le_refl _))
          have HO := Lib.hid hown
          have hsz := hB.size
          clear hvk hr1 hcv' hnl hown
          unfold maxLen at hc1
          have hbnd : t + n1 ≤ 1000000000 := by omega
          go_wp2_with (at_builtin; refine app_rngs (.tmp 31) (.tmp 32) HO.out HR.out hbnd hsz rfl rfl rfl rfl ?_; intro v3 w3 hown3 hg3 hat3)
          go_roundw
          case rel => exact ⟨j + 1, t + n1, by omega, by go_num, by rw [HT2.out, HTE.out, HNL.out], by rw [HF.out]; exact hown3, grown_own hB HO.out hg3 (Nat.le_refl _) hsz⟩
          case measure => simp [intOf]; omega
        · obtain rfl : j = k := by omega
          rw [HT.out] at hown
          go_wp2
          go_ret
          exact ownRngs_of rfl hown hB
end Go.Proofs.YtbiahhojnjchnaaGreat
