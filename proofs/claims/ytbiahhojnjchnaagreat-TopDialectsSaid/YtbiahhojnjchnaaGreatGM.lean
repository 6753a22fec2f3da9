/-
  DERIVED: THE SHELF's CONTRACTS AT THIS DUMP, IN PLAIN WORDS (tools/lay-plain.mjs out of 'YtbiahhojnjchnaaGreatIntLayTmp.lean', which tools/lay-shelf.mjs wrote): THE SAME DECLARATIONS UNDER THE SAME NAMES: 'import', 'namespace', 'open', 'def', 'theorem' AND NOTHING ELSE: no command of the shelf's: FOR A HAND-IN. Each laying: the table of numbers ('.._ren') and one theorem, a field a fact of the dump's own or the kernel's comparison; each contract: ONE APPLICATION. slices.Sort and slices.Compact at ints: the kit's contracts, in the words of rows that the call owns.
-/
import Derived.Shelf.Sort.Plain
import Derived.Ground.Names2Prog
import Derived.Shelf.Slices.CompactI
import Derived.Shelf.Slices.In.SortNone
import Derived.Test.YtbiahhojnjchnaaGreatProg
import Derived.Test.YtbiahhojnjchnaaGreatHF
import Derived.Test.YtbiahhojnjchnaaGreatGJ
import Derived.Lib.OwnBridge
set_option linter.unusedVariables false
set_option linter.unusedSimpArgs false
namespace Go.Proofs
open Go.Shelf
def Tryz.lays189_ren : Go.Shelf.Ren := ⟨fun | 189 => 107 | 125 => 124 | 257 => 125 | 128 => 156 | 129 => 157 | 294 => 158 | 295 => 159 | 296 => 160 | 297 => 161 | 298 => 162 | 299 => 163 | 216 => 164 | 300 => 165 | 301 => 166 | 328 => 193 | 329 => 189 | 330 => 190 | 331 => 194 | 332 => 195 | 215 => 196 | 343 => 218 | n => n, fun | 28 => 22 | 3 => 3 | 46 => 141 | 0 => 0 | 51 => 180 | 53 => 182 | 4 => 4 | 183 => 174 | 182 => 173 | 131 => 104 | 5 => 5 | 9 => 9 | 218 => 203 | 222 => 207 | 228 => 225 | 229 => 194 | n => n, fun | n => n⟩
theorem Tryz.lays189 : Go.Proofs.Lays.n189 Tryz.prog Tryz.lays189_ren := {
  mixed := by kernel_rfl
  f125 := Tryz.func124.trans (congrArg some (by kernel_rfl))
  f128 := Tryz.func156.trans (congrArg some (by kernel_rfl))
  f129 := Tryz.func157.trans (congrArg some (by kernel_rfl))
  f189 := Tryz.func107.trans (congrArg some (by kernel_rfl))
  f215 := Tryz.func196.trans (congrArg some (by kernel_rfl))
  f216 := Tryz.func164.trans (congrArg some (by kernel_rfl))
  f257 := Tryz.func125.trans (congrArg some (by kernel_rfl))
  f294 := Tryz.func158.trans (congrArg some (by kernel_rfl))
  f295 := Tryz.func159.trans (congrArg some (by kernel_rfl))
  f296 := Tryz.func160.trans (congrArg some (by kernel_rfl))
  f297 := Tryz.func161.trans (congrArg some (by kernel_rfl))
  f298 := Tryz.func162.trans (congrArg some (by kernel_rfl))
  f299 := Tryz.func163.trans (congrArg some (by kernel_rfl))
  f300 := Tryz.func165.trans (congrArg some (by kernel_rfl))
  f301 := Tryz.func166.trans (congrArg some (by kernel_rfl))
  f328 := Tryz.func193.trans (congrArg some (by kernel_rfl))
  f329 := Tryz.func189.trans (congrArg some (by kernel_rfl))
  f330 := Tryz.func190.trans (congrArg some (by kernel_rfl))
  f331 := Tryz.func194.trans (congrArg some (by kernel_rfl))
  f332 := Tryz.func195.trans (congrArg some (by kernel_rfl))
  f343 := Tryz.func218.trans (congrArg some (by kernel_rfl))
  t0 := Tryz.underlying0
  a0 := Tryz.isAgg0
  z0 := Tryz.sizeOf0
  v0 := Tryz.zeroValue0
  t3 := Tryz.underlying3
  a3 := Tryz.isAgg3
  z3 := Tryz.sizeOf3
  v3 := Tryz.zeroValue3
  t4 := Tryz.underlying4
  a4 := Tryz.isAgg4
  z4 := Tryz.sizeOf4
  v4 := Tryz.zeroValue4
  t5 := Tryz.underlying5
  a5 := Tryz.isAgg5
  z5 := Tryz.sizeOf5
  v5 := Tryz.zeroValue5
  t9 := Tryz.underlying9
  a9 := Tryz.isAgg9
  z9 := Tryz.sizeOf9
  v9 := Tryz.zeroValue9
  t28 := Tryz.underlying22
  a28 := Tryz.isAgg22
  z28 := Tryz.sizeOf22
  v28 := Tryz.zeroValue22
  t46 := Tryz.underlying141
  a46 := Tryz.isAgg141
  z46 := Tryz.sizeOf141
  v46 := Tryz.zeroValue141
  t51 := Tryz.underlying180
  a51 := Tryz.isAgg180
  z51 := Tryz.sizeOf180
  v51 := Tryz.zeroValue180
  t53 := Tryz.underlying182
  a53 := Tryz.isAgg182
  z53 := Tryz.sizeOf182
  v53 := Tryz.zeroValue182
  t131 := Tryz.underlying104
  a131 := Tryz.isAgg104
  z131 := Tryz.sizeOf104
  v131 := Tryz.zeroValue104
  t182 := Tryz.underlying173
  a182 := Tryz.isAgg173
  z182 := Tryz.sizeOf173
  v182 := Tryz.zeroValue173
  t183 := Tryz.underlying174
  a183 := Tryz.isAgg174
  z183 := Tryz.sizeOf174
  v183 := Tryz.zeroValue174
  t218 := Tryz.underlying203
  a218 := Tryz.isAgg203
  z218 := Tryz.sizeOf203
  v218 := Tryz.zeroValue203
  t222 := Tryz.underlying207
  a222 := Tryz.isAgg207
  z222 := Tryz.sizeOf207
  v222 := Tryz.zeroValue207
  t228 := Tryz.underlying225
  a228 := Tryz.isAgg225
  z228 := Tryz.sizeOf225
  v228 := Tryz.zeroValue225
  t229 := Tryz.underlying194
  a229 := Tryz.isAgg194
  z229 := Tryz.sizeOf194
  v229 := Tryz.zeroValue194 }
open Go.Sort Go.RowKit in
theorem Tryz.slices_Sort_int (blk off cap : Nat) (zs : List Int) (w : World) (hH : Holds (Value.int .i64) w blk off zs.toArray) (hblk : blk < w.heap.size) (hsz : zs.length < 4611686018427387904) :
    Calls Tryz.prog 107 #[.slice (some ⟨blk, off, none⟩) zs.length cap] w fun e w' =>
      e = .returned (.tuple #[]) ∧ ∃ n os, w' = grow (putRow (Value.int .i64) (Sort.ahead w n) blk off (zs.mergeSort fun x y => decide (x ≤ y)).toArray) os := Any.slices_Sort_int Tryz.lays189 blk off cap zs w hH hblk hsz
def Tryz.laysNm220_ren : Go.Shelf.Ren := ⟨fun | 20 => 108 | n => n, fun | 22 => 22 | 3 => 3 | 4 => 4 | 0 => 0 | n => n, fun | n => n⟩
theorem Tryz.laysNm220 : Go.Proofs.Lays2.n20 Tryz.prog Tryz.laysNm220_ren := {
  mixed := by kernel_rfl
  f20 := Tryz.func108.trans (congrArg some (by kernel_rfl))
  t0 := Tryz.underlying0
  a0 := Tryz.isAgg0
  z0 := Tryz.sizeOf0
  v0 := Tryz.zeroValue0
  t3 := Tryz.underlying3
  a3 := Tryz.isAgg3
  z3 := Tryz.sizeOf3
  v3 := Tryz.zeroValue3
  t4 := Tryz.underlying4
  a4 := Tryz.isAgg4
  z4 := Tryz.sizeOf4
  v4 := Tryz.zeroValue4
  t22 := Tryz.underlying22
  a22 := Tryz.isAgg22
  z22 := Tryz.sizeOf22
  v22 := Tryz.zeroValue22
  i3 := by kernel_rfl }
open Go.RowKit Go.Lib Go.Sort in
/-- slices.Compact at []int: "Compact replaces consecutive runs of equal elements with a single copy. This is like the uniq command found on Unix. Compact modifies the contents of the slice s and returns the modified slice, which may have a smaller length. Compact zeroes the elements between the new length and the original length. The result preserves the nilness of s.": IT RETURNS THE SLICE CUT TO 'Lib.compact zs'; ITS CELLS HOLD 'Lib.compact zs', THEN ZERO VALUES up to the old length; all else is as it was, but for the count of draws. IN THE WORDS OF slices.Sort's CONTRACT ('Holds', 'putRow'): so the everyday 'slices.Sort(xs); xs = slices.Compact(xs)' goes from the one contract to the other. It asks 'zs.length ≤ cap' (every slice's: the reslicing 's[:k]' looks at it). Length 0, nil: '.._empty'. (LAID: no walk: one application.) -/
theorem Tryz.slices_Compact_int (blk off cap : Nat) (zs : List Int) (w : World) (hH : Holds (Value.int .i64) w blk off zs.toArray) (hsz : zs.length ≤ 9223372036854775807) (hcap : zs.length ≤ cap) :
    Calls Tryz.prog 108 #[.slice (some ⟨blk, off, none⟩) zs.length cap] w fun e w' => e = .returned (.slice (some ⟨blk, off, none⟩) (Lib.compact zs).length cap) ∧ ∃ q, w' = putRow (Value.int .i64) (Sort.ahead w q) blk off (Lib.compact zs ++ List.replicate (zs.length - (Lib.compact zs).length) 0).toArray := Any.slices_Compact_int Tryz.laysNm220 blk off cap zs w hH hsz hcap
open Go.RowKit Go.Lib Go.Sort in
/-- The same at a slice of length 0, a nil one too: it comes back as it is. (LAID: no walk: one application.) -/
theorem Tryz.slices_Compact_int_empty (a : Option Addr) (cap : Nat) (w : World) :
    Calls Tryz.prog 108 #[.slice a 0 cap] w fun e w' => e = .returned (.slice a 0 cap) ∧ w' = w := Any.slices_Compact_int_empty Tryz.laysNm220 a cap w
open Go.RowKit Go.Sort in
/-- .. and plain. (LAID: no walk: one application.) -/
theorem Tryz.slices_Sort_int_none (p : Option Addr) (cap : Nat) (w : World) :
    Calls Tryz.prog 107 #[.slice p 0 cap] w fun e w' => e = .returned (.tuple #[]) ∧ w' = w := Any.slices_Sort_int_none Tryz.lays189 p cap w
end Go.Proofs
namespace Go.Proofs.YtbiahhojnjchnaaGreat
open Go.RowKit Go.Sort Go.Shelf Go.Lib
def srt (l : List Int) : List Int := l.mergeSort fun x y => decide (x ≤ y)
theorem srt_perm (l : List Int) : (srt l).Perm l := List.mergeSort_perm _ _
theorem srt_len (l : List Int) : (srt l).length = l.length := (srt_perm l).length_eq
theorem srt_sorted (l : List Int) : (srt l).Pairwise fun x y => x ≤ y := by
  have := List.pairwise_mergeSort (le := fun (x y : Int) => decide (x ≤ y)) (fun a b c h1 h2 => by simp at *; omega) (fun a b => by simp; omega) l
  exact this.imp fun h => of_decide_eq_true h
theorem own_grow {w : World} {base n size : Nat} {e : TypeId} {v : Value} {xs : List Value} (h : w.ownsRow base e size v n xs) (os : Array Obj) : (grow w os).ownsRow base e size v n xs :=
  own_below h (below_grow (Below.refl w.heap.size w) (Nat.le_refl _) os) (Nat.le_refl _)
theorem sort139 (l : List Int) (A : Option Addr) (n c base : Nat) (w : World) (hn : n ≤ 1000000) (hown : w.ownsRow base 3 1 (.slice A n c) n (ints l)) (hbase : base ≤ w.heap.size) :
    Calls Tryz.prog 107 #[.slice A n c] w fun e w' => e = .returned (.tuple #[]) ∧ w'.ownsRow base 3 1 (.slice A n c) n (ints (srt l)) ∧ Below base w w' := by
  have hl := own_ints_len hown
  rcases Nat.eq_zero_or_pos n with h0 | h0
  · subst h0
    have hl0 : l = [] := List.eq_nil_of_length_eq_zero hl.symm
    subst hl0
    exact (Tryz.slices_Sort_int_none A c w).mono fun e w' ⟨he, hw⟩ => ⟨he, by rw [hw]; simpa [srt] using hown, by rw [hw]; exact Below.refl _ _⟩
  · obtain ⟨g, cap, hv, hg, hlt, hnc, hcm, hzl, hH⟩ := holds_of_ownsRow (enc := Value.int .i64) (zs := l) hown (fun e => by injection e with _ e2; omega)
    injection hv with e1 e2 e3
    subst e1 e3
    clear e2
    have hs := Tryz.slices_Sort_int g 0 c l w hH hlt (by omega)
    rw [hzl] at hs
    refine Calls.mono hs ?_
    rintro e w' ⟨he, q, os, rfl⟩
    refine ⟨he, own_grow ?_ os, below_grow (below_putRow (Below.refl base w) hg) hbase os⟩
    have := ownsRow_putRow (enc := Value.int .i64) (zs := l) (ys := srt l) (q := q) (k := n) hown (by rw [srt_len]; exact hzl) (Nat.le_refl _)
    rwa [List.take_of_length_le (by rw [srt_len]; omega)] at this
theorem compact_le (l : List Int) : (Lib.compact l).length ≤ l.length := by
  unfold Lib.compact compactUpTo
  rw [List.length_map]
  exact Nat.le_trans (List.length_filter_le _ _) (by simp)
theorem compact160 (l : List Int) (A : Option Addr) (n c base : Nat) (w : World) (hn : n ≤ 1000000) (hown : w.ownsRow base 3 1 (.slice A n c) n (ints l)) (hbase : base ≤ w.heap.size) :
    Calls Tryz.prog 108 #[.slice A n c] w fun e w' => ∃ m, e = .returned (.slice A m c) ∧ w'.ownsRow base 3 1 (.slice A m c) m (ints (Lib.compact l)) ∧ Below base w w' := by
  have hl := own_ints_len hown
  rcases Nat.eq_zero_or_pos n with h0 | h0
  · subst h0
    have hl0 : l = [] := List.eq_nil_of_length_eq_zero hl.symm
    subst hl0
    exact (Tryz.slices_Compact_int_empty A c w).mono fun e w' ⟨he, hw⟩ => ⟨0, he, by rw [hw]; exact hown, by rw [hw]; exact Below.refl _ _⟩
  · obtain ⟨g, cap, hv, hg, hlt, hnc, hcm, hzl, hH⟩ := holds_of_ownsRow (enc := Value.int .i64) (zs := l) hown (fun e => by injection e with _ e2; omega)
    injection hv with e1 e2 e3
    subst e1 e3
    clear e2
    have hs := Tryz.slices_Compact_int g 0 c l w hH (by omega) (by omega)
    rw [hzl] at hs
    refine Calls.mono hs ?_
    rintro e w' ⟨he, q, rfl⟩
    have hle := compact_le l
    refine ⟨(Lib.compact l).length, he, ?_, below_putRow (Below.refl base w) hg⟩
    have := ownsRow_putRow (enc := Value.int .i64) (zs := l) (ys := Lib.compact l ++ List.replicate (n - (Lib.compact l).length) 0) (q := q) (k := (Lib.compact l).length) hown (by simp; omega) (by omega)
    rw [List.take_left' rfl] at this
    exact this
end Go.Proofs.YtbiahhojnjchnaaGreat
