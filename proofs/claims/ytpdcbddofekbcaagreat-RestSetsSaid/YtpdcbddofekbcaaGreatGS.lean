/-
  DERIVED: THE SHELF's CONTRACTS AT THIS DUMP, IN PLAIN WORDS (tools/lay-plain.mjs out of 'YtpdcbddofekbcaaGreatIntLayTmp.lean', which tools/lay-shelf.mjs wrote): THE SAME DECLARATIONS UNDER THE SAME NAMES: 'import', 'namespace', 'open', 'def', 'theorem' AND NOTHING ELSE: no command of the shelf's: FOR A HAND-IN. Each laying: the table of numbers ('.._ren') and one theorem, a field a fact of the dump's own or the kernel's comparison; each contract: ONE APPLICATION. slices.Sort and slices.Compact at ints: the kit's contracts, in the words of rows that the call owns.
-/
import Derived.Shelf.Sort.Plain
import Derived.Ground.Names2Prog
import Derived.Shelf.Slices.CompactI
import Derived.Shelf.Slices.In.SortNone
import Derived.Test.YtpdcbddofekbcaaGreatProg
import Derived.Test.YtpdcbddofekbcaaGreatSetQ
import Derived.Test.YtpdcbddofekbcaaGreatGO
import Derived.Lib.OwnBridge
namespace Go.Proofs
open Go.Shelf
def Tryz.lays189_ren : Go.Shelf.Ren := ⟨fun | 189 => 70 | 125 => 61 | 257 => 95 | 128 => 85 | 129 => 86 | 294 => 106 | 295 => 107 | 296 => 108 | 297 => 109 | 298 => 110 | 299 => 111 | 216 => 112 | 300 => 113 | 301 => 114 | 328 => 118 | 329 => 99 | 330 => 100 | 331 => 119 | 332 => 120 | 215 => 121 | 343 => 122 | n => n, fun | 28 => 50 | 3 => 3 | 46 => 69 | 0 => 0 | 51 => 94 | 53 => 96 | 4 => 4 | 183 => 88 | 182 => 87 | 131 => 83 | 5 => 5 | 9 => 9 | 218 => 103 | 222 => 107 | 228 => 118 | 229 => 119 | n => n, fun | n => n⟩
theorem Tryz.lays189 : Go.Proofs.Lays.n189 Tryz.prog Tryz.lays189_ren := {
  mixed := by kernel_rfl
  f125 := Tryz.func61.trans (congrArg some (by kernel_rfl))
  f128 := Tryz.func85.trans (congrArg some (by kernel_rfl))
  f129 := Tryz.func86.trans (congrArg some (by kernel_rfl))
  f189 := Tryz.func70.trans (congrArg some (by kernel_rfl))
  f215 := Tryz.func121.trans (congrArg some (by kernel_rfl))
  f216 := Tryz.func112.trans (congrArg some (by kernel_rfl))
  f257 := Tryz.func95.trans (congrArg some (by kernel_rfl))
  f294 := Tryz.func106.trans (congrArg some (by kernel_rfl))
  f295 := Tryz.func107.trans (congrArg some (by kernel_rfl))
  f296 := Tryz.func108.trans (congrArg some (by kernel_rfl))
  f297 := Tryz.func109.trans (congrArg some (by kernel_rfl))
  f298 := Tryz.func110.trans (congrArg some (by kernel_rfl))
  f299 := Tryz.func111.trans (congrArg some (by kernel_rfl))
  f300 := Tryz.func113.trans (congrArg some (by kernel_rfl))
  f301 := Tryz.func114.trans (congrArg some (by kernel_rfl))
  f328 := Tryz.func118.trans (congrArg some (by kernel_rfl))
  f329 := Tryz.func99.trans (congrArg some (by kernel_rfl))
  f330 := Tryz.func100.trans (congrArg some (by kernel_rfl))
  f331 := Tryz.func119.trans (congrArg some (by kernel_rfl))
  f332 := Tryz.func120.trans (congrArg some (by kernel_rfl))
  f343 := Tryz.func122.trans (congrArg some (by kernel_rfl))
  t0 := Tryz.underlying0
  a0 := Tryz.isAgg0
  z0 := Tryz.sizeOf0
  v0 := Tryz.zeroValue0
  t3 := Tryz.underlying3
  a3 := Tryz.isAgg3
  z3 := Tryz.sizeOf3
  v3 := Tryz.zeroValue3
  t4 := Tryz.underlying4
  a4 := Tryz.isAgg4
  z4 := Tryz.sizeOf4
  v4 := Tryz.zeroValue4
  t5 := Tryz.underlying5
  a5 := Tryz.isAgg5
  z5 := Tryz.sizeOf5
  v5 := Tryz.zeroValue5
  t9 := Tryz.underlying9
  a9 := Tryz.isAgg9
  z9 := Tryz.sizeOf9
  v9 := Tryz.zeroValue9
  t28 := Tryz.underlying50
  a28 := Tryz.isAgg50
  z28 := Tryz.sizeOf50
  v28 := Tryz.zeroValue50
  t46 := Tryz.underlying69
  a46 := Tryz.isAgg69
  z46 := Tryz.sizeOf69
  v46 := Tryz.zeroValue69
  t51 := Tryz.underlying94
  a51 := Tryz.isAgg94
  z51 := Tryz.sizeOf94
  v51 := Tryz.zeroValue94
  t53 := Tryz.underlying96
  a53 := Tryz.isAgg96
  z53 := Tryz.sizeOf96
  v53 := Tryz.zeroValue96
  t131 := Tryz.underlying83
  a131 := Tryz.isAgg83
  z131 := Tryz.sizeOf83
  v131 := Tryz.zeroValue83
  t182 := Tryz.underlying87
  a182 := Tryz.isAgg87
  z182 := Tryz.sizeOf87
  v182 := Tryz.zeroValue87
  t183 := Tryz.underlying88
  a183 := Tryz.isAgg88
  z183 := Tryz.sizeOf88
  v183 := Tryz.zeroValue88
  t218 := Tryz.underlying103
  a218 := Tryz.isAgg103
  z218 := Tryz.sizeOf103
  v218 := Tryz.zeroValue103
  t222 := Tryz.underlying107
  a222 := Tryz.isAgg107
  z222 := Tryz.sizeOf107
  v222 := Tryz.zeroValue107
  t228 := Tryz.underlying118
  a228 := Tryz.isAgg118
  z228 := Tryz.sizeOf118
  v228 := Tryz.zeroValue118
  t229 := Tryz.underlying119
  a229 := Tryz.isAgg119
  z229 := Tryz.sizeOf119
  v229 := Tryz.zeroValue119 }
open Go.Sort Go.RowKit in
theorem Tryz.slices_Sort_int (blk off cap : Nat) (zs : List Int) (w : World) (hH : Holds (Value.int .i64) w blk off zs.toArray) (hblk : blk < w.heap.size) (hsz : zs.length < 4611686018427387904) :
    Calls Tryz.prog 70 #[.slice (some ⟨blk, off, none⟩) zs.length cap] w fun e w' =>
      e = .returned (.tuple #[]) ∧ ∃ n os, w' = grow (putRow (Value.int .i64) (Sort.ahead w n) blk off (zs.mergeSort fun x y => decide (x ≤ y)).toArray) os := Any.slices_Sort_int Tryz.lays189 blk off cap zs w hH hblk hsz
def Tryz.laysNm220_ren : Go.Shelf.Ren := ⟨fun | 20 => 71 | n => n, fun | 22 => 50 | 3 => 3 | 4 => 4 | 0 => 0 | n => n, fun | n => n⟩
theorem Tryz.laysNm220 : Go.Proofs.Lays2.n20 Tryz.prog Tryz.laysNm220_ren := {
  mixed := by kernel_rfl
  f20 := Tryz.func71.trans (congrArg some (by kernel_rfl))
  t0 := Tryz.underlying0
  a0 := Tryz.isAgg0
  z0 := Tryz.sizeOf0
  v0 := Tryz.zeroValue0
  t3 := Tryz.underlying3
  a3 := Tryz.isAgg3
  z3 := Tryz.sizeOf3
  v3 := Tryz.zeroValue3
  t4 := Tryz.underlying4
  a4 := Tryz.isAgg4
  z4 := Tryz.sizeOf4
  v4 := Tryz.zeroValue4
  t22 := Tryz.underlying50
  a22 := Tryz.isAgg50
  z22 := Tryz.sizeOf50
  v22 := Tryz.zeroValue50
  i3 := by kernel_rfl }
open Go.RowKit Go.Lib Go.Sort in
/-- slices.Compact at []int: "Compact replaces consecutive runs of equal elements with a single copy. This is like the uniq command found on Unix. Compact modifies the contents of the slice s and returns the modified slice, which may have a smaller length. Compact zeroes the elements between the new length and the original length. The result preserves the nilness of s.": IT RETURNS THE SLICE CUT TO 'Lib.compact zs'; ITS CELLS HOLD 'Lib.compact zs', THEN ZERO VALUES up to the old length; all else is as it was, but for the count of draws. IN THE WORDS OF slices.Sort's CONTRACT ('Holds', 'putRow'): so the everyday 'slices.Sort(xs); xs = slices.Compact(xs)' goes from the one contract to the other. It asks 'zs.length ≤ cap' (every slice's: the reslicing 's[:k]' looks at it). Length 0, nil: '.._empty'. (LAID: no walk: one application.) -/
theorem Tryz.slices_Compact_int (blk off cap : Nat) (zs : List Int) (w : World) (hH : Holds (Value.int .i64) w blk off zs.toArray) (hsz : zs.length ≤ 9223372036854775807) (hcap : zs.length ≤ cap) :
    Calls Tryz.prog 71 #[.slice (some ⟨blk, off, none⟩) zs.length cap] w fun e w' => e = .returned (.slice (some ⟨blk, off, none⟩) (Lib.compact zs).length cap) ∧ ∃ q, w' = putRow (Value.int .i64) (Sort.ahead w q) blk off (Lib.compact zs ++ List.replicate (zs.length - (Lib.compact zs).length) 0).toArray := Any.slices_Compact_int Tryz.laysNm220 blk off cap zs w hH hsz hcap
open Go.RowKit Go.Lib Go.Sort in
/-- The same at a slice of length 0, a nil one too: it comes back as it is. (LAID: no walk: one application.) -/
theorem Tryz.slices_Compact_int_empty (a : Option Addr) (cap : Nat) (w : World) :
    Calls Tryz.prog 71 #[.slice a 0 cap] w fun e w' => e = .returned (.slice a 0 cap) ∧ w' = w := Any.slices_Compact_int_empty Tryz.laysNm220 a cap w
open Go.RowKit Go.Sort in
/-- .. and plain. (LAID: no walk: one application.) -/
theorem Tryz.slices_Sort_int_none (p : Option Addr) (cap : Nat) (w : World) :
    Calls Tryz.prog 70 #[.slice p 0 cap] w fun e w' => e = .returned (.tuple #[]) ∧ w' = w := Any.slices_Sort_int_none Tryz.lays189 p cap w
end Go.Proofs
namespace Go.Proofs.YtpdcbddofekbcaaGreat
open Go.RowKit Go.Sort Go.Shelf Go.Lib
set_option linter.unusedVariables false
def srt (l : List Int) : List Int := l.mergeSort fun x y => decide (x ≤ y)
theorem srt_perm (l : List Int) : (srt l).Perm l := List.mergeSort_perm _ _
theorem srt_len (l : List Int) : (srt l).length = l.length := (srt_perm l).length_eq
theorem srt_sorted (l : List Int) : (srt l).Pairwise fun x y => x ≤ y := by
  have := List.pairwise_mergeSort (le := fun (x y : Int) => decide (x ≤ y)) (fun a b c h1 h2 => by simp at *; omega) (fun a b => by simp; omega) l
  exact this.imp fun h => of_decide_eq_true h
theorem own_grow {w : World} {base n size : Nat} {e : TypeId} {v : Value} {xs : List Value} (h : w.ownsRow base e size v n xs) (os : Array Obj) : (grow w os).ownsRow base e size v n xs :=
  own_below h (below_grow (Below.refl w.heap.size w) (Nat.le_refl _) os) (Nat.le_refl _)
theorem sort139 (l : List Int) (A : Option Addr) (n c base : Nat) (w : World) (hn : n ≤ 1000000) (hown : w.ownsRow base 3 1 (.slice A n c) n (ints l)) (hbase : base ≤ w.heap.size) :
    Calls Tryz.prog 70 #[.slice A n c] w fun e w' => e = .returned (.tuple #[]) ∧ w'.ownsRow base 3 1 (.slice A n c) n (ints (srt l)) ∧ Below base w w' := by
  have hl := own_ints_len hown
  rcases Nat.eq_zero_or_pos n with h0 | h0
  · subst h0
    have hl0 : l = [] := List.eq_nil_of_length_eq_zero hl.symm
    subst hl0
    exact (Tryz.slices_Sort_int_none A c w).mono fun e w' ⟨he, hw⟩ => ⟨he, by rw [hw]; simpa [srt] using hown, by rw [hw]; exact Below.refl _ _⟩
  · obtain ⟨g, cap, hv, hg, hlt, hnc, hcm, hzl, hH⟩ := holds_of_ownsRow (enc := Value.int .i64) (zs := l) hown (fun e => by injection e with _ e2; omega)
    injection hv with e1 e2 e3
    subst e1 e3
    clear e2
    have hs := Tryz.slices_Sort_int g 0 c l w hH hlt (by omega)
    rw [hzl] at hs
    refine Calls.mono hs ?_
    rintro e w' ⟨he, q, os, rfl⟩
    refine ⟨he, own_grow ?_ os, below_grow (below_putRow (Below.refl base w) hg) hbase os⟩
    have := ownsRow_putRow (enc := Value.int .i64) (zs := l) (ys := srt l) (q := q) (k := n) hown (by rw [srt_len]; exact hzl) (Nat.le_refl _)
    rwa [List.take_of_length_le (by rw [srt_len]; omega)] at this
theorem compact_le (l : List Int) : (Lib.compact l).length ≤ l.length := by
  unfold Lib.compact compactUpTo
  rw [List.length_map]
  exact Nat.le_trans (List.length_filter_le _ _) (by simp)
theorem compact160 (l : List Int) (A : Option Addr) (n c base : Nat) (w : World) (hn : n ≤ 1000000) (hown : w.ownsRow base 3 1 (.slice A n c) n (ints l)) (hbase : base ≤ w.heap.size) :
    Calls Tryz.prog 71 #[.slice A n c] w fun e w' => ∃ m, e = .returned (.slice A m c) ∧ w'.ownsRow base 3 1 (.slice A m c) m (ints (Lib.compact l)) ∧ Below base w w' := by
  have hl := own_ints_len hown
  rcases Nat.eq_zero_or_pos n with h0 | h0
  · subst h0
    have hl0 : l = [] := List.eq_nil_of_length_eq_zero hl.symm
    subst hl0
    exact (Tryz.slices_Compact_int_empty A c w).mono fun e w' ⟨he, hw⟩ => ⟨0, he, by rw [hw]; exact hown, by rw [hw]; exact Below.refl _ _⟩
  · obtain ⟨g, cap, hv, hg, hlt, hnc, hcm, hzl, hH⟩ := holds_of_ownsRow (enc := Value.int .i64) (zs := l) hown (fun e => by injection e with _ e2; omega)
    injection hv with e1 e2 e3
    subst e1 e3
    clear e2
    have hs := Tryz.slices_Compact_int g 0 c l w hH (by omega) (by omega)
    rw [hzl] at hs
    refine Calls.mono hs ?_
    rintro e w' ⟨he, q, rfl⟩
    have hle := compact_le l
    refine ⟨(Lib.compact l).length, he, ?_, below_putRow (Below.refl base w) hg⟩
    have := ownsRow_putRow (enc := Value.int .i64) (zs := l) (ys := Lib.compact l ++ List.replicate (n - (Lib.compact l).length) 0) (q := q) (k := (Lib.compact l).length) hown (by simp; omega) (by omega)
    rw [List.take_left' rfl] at this
    exact this
end Go.Proofs.YtpdcbddofekbcaaGreat
