/-
  DERIVED: THE SHELF's CONTRACTS AT THIS DUMP, IN PLAIN WORDS (tools/lay-plain.mjs out of 'YtbiahhojnjchnaaGreatSortLayTmp.lean', which tools/lay-shelf.mjs wrote): THE SAME DECLARATIONS UNDER THE SAME NAMES: 'import', 'namespace', 'open', 'def', 'theorem' AND NOTHING ELSE: no command of the shelf's: FOR A HAND-IN. Each laying: the table of numbers ('.._ren') and one theorem, a field a fact of the dump's own or the kernel's comparison; each contract: ONE APPLICATION. The kit's sort, laid over this program's own: what slices.SortFunc leaves of a list of right ranges (SetO's SortC is held).
-/
import Derived.Shelf.SlGeneric
import Derived.Shelf.SlSortCmp.WholeK
import Derived.Shelf.SlSortCmp.NoneTotal
import Derived.Ground.SlsfProg
import Derived.Test.YtbiahhojnjchnaaGreatProg
import Derived.Test.YtbiahhojnjchnaaGreatGE
import Derived.Lib.OwnBridge
set_option linter.unusedVariables false
set_option linter.unusedSimpArgs false
namespace Go.Proofs
open Go.Shelf
def Tryz.sortRng_ren : Go.Shelf.Ren := ⟨fun | 6 => 104 | 15 => 124 | 14 => 123 | 28 => 156 | 29 => 157 | 20 => 148 | 21 => 149 | 22 => 150 | 23 => 151 | 24 => 152 | 25 => 153 | 26 => 154 | 27 => 155 | 46 => 188 | 47 => 189 | 48 => 190 | 49 => 191 | 50 => 192 | 57 => 217 | n => n, fun | 22 => 23 | 24 => 67 | 25 => 134 | 3 => 3 | 39 => 141 | 0 => 0 | 53 => 180 | 55 => 182 | 4 => 4 | 46 => 174 | 45 => 173 | 50 => 104 | 5 => 5 | 9 => 9 | 66 => 203 | 70 => 207 | 76 => 225 | 77 => 194 | n => n, fun | n => n⟩
theorem Tryz.sortRng : Go.Proofs.SlLaysF0.n6 Tryz.prog Tryz.sortRng_ren := {
  mixed := by kernel_rfl
  f6 := ⟨Tryz.f104.name, by decide, Tryz.func104.trans (congrArg some (by kernel_rfl))⟩
  f14 := ⟨Tryz.f123.name, by decide, Tryz.func123.trans (congrArg some (by kernel_rfl))⟩
  f15 := Tryz.func124.trans (congrArg some (by kernel_rfl))
  f20 := ⟨Tryz.f148.name, by decide, Tryz.func148.trans (congrArg some (by kernel_rfl))⟩
  f21 := ⟨Tryz.f149.name, by decide, Tryz.func149.trans (congrArg some (by kernel_rfl))⟩
  f22 := ⟨Tryz.f150.name, by decide, Tryz.func150.trans (congrArg some (by kernel_rfl))⟩
  f23 := ⟨Tryz.f151.name, by decide, Tryz.func151.trans (congrArg some (by kernel_rfl))⟩
  f24 := ⟨Tryz.f152.name, by decide, Tryz.func152.trans (congrArg some (by kernel_rfl))⟩
  f25 := ⟨Tryz.f153.name, by decide, Tryz.func153.trans (congrArg some (by kernel_rfl))⟩
  f26 := ⟨Tryz.f154.name, by decide, Tryz.func154.trans (congrArg some (by kernel_rfl))⟩
  f27 := ⟨Tryz.f155.name, by decide, Tryz.func155.trans (congrArg some (by kernel_rfl))⟩
  f28 := Tryz.func156.trans (congrArg some (by kernel_rfl))
  f29 := Tryz.func157.trans (congrArg some (by kernel_rfl))
  f46 := ⟨Tryz.f188.name, by decide, Tryz.func188.trans (congrArg some (by kernel_rfl))⟩
  f47 := Tryz.func189.trans (congrArg some (by kernel_rfl))
  f48 := Tryz.func190.trans (congrArg some (by kernel_rfl))
  f49 := ⟨Tryz.f191.name, by decide, Tryz.func191.trans (congrArg some (by kernel_rfl))⟩
  f50 := ⟨Tryz.f192.name, by decide, Tryz.func192.trans (congrArg some (by kernel_rfl))⟩
  f57 := ⟨Tryz.f217.name, by decide, Tryz.func217.trans (congrArg some (by kernel_rfl))⟩
  t0 := Tryz.underlying0
  a0 := Tryz.isAgg0
  z0 := Tryz.sizeOf0
  v0 := Tryz.zeroValue0
  t3 := Tryz.underlying3
  a3 := Tryz.isAgg3
  z3 := Tryz.sizeOf3
  v3 := Tryz.zeroValue3
  t4 := Tryz.underlying4
  a4 := Tryz.isAgg4
  z4 := Tryz.sizeOf4
  v4 := Tryz.zeroValue4
  t5 := Tryz.underlying5
  a5 := Tryz.isAgg5
  z5 := Tryz.sizeOf5
  v5 := Tryz.zeroValue5
  t9 := Tryz.underlying9
  a9 := Tryz.isAgg9
  z9 := Tryz.sizeOf9
  v9 := Tryz.zeroValue9
  t22 := Tryz.underlying23
  a22 := Tryz.isAgg23
  z22 := Tryz.sizeOf23
  v22 := Tryz.zeroValue23
  t25 := Tryz.underlying134
  a25 := Tryz.isAgg134
  z25 := Tryz.sizeOf134
  v25 := Tryz.zeroValue134
  t39 := Tryz.underlying141
  a39 := Tryz.isAgg141
  z39 := Tryz.sizeOf141
  v39 := Tryz.zeroValue141
  t45 := Tryz.underlying173
  a45 := Tryz.isAgg173
  z45 := Tryz.sizeOf173
  v45 := Tryz.zeroValue173
  t46 := Tryz.underlying174
  a46 := Tryz.isAgg174
  z46 := Tryz.sizeOf174
  v46 := Tryz.zeroValue174
  t50 := Tryz.underlying104
  a50 := Tryz.isAgg104
  z50 := Tryz.sizeOf104
  v50 := Tryz.zeroValue104
  t53 := Tryz.underlying180
  a53 := Tryz.isAgg180
  z53 := Tryz.sizeOf180
  v53 := Tryz.zeroValue180
  t55 := Tryz.underlying182
  a55 := Tryz.isAgg182
  z55 := Tryz.sizeOf182
  v55 := Tryz.zeroValue182
  t66 := Tryz.underlying203
  a66 := Tryz.isAgg203
  z66 := Tryz.sizeOf203
  v66 := Tryz.zeroValue203
  t70 := Tryz.underlying207
  a70 := Tryz.isAgg207
  z70 := Tryz.sizeOf207
  v70 := Tryz.zeroValue207
  t76 := Tryz.underlying225
  a76 := Tryz.isAgg225
  z76 := Tryz.sizeOf225
  v76 := Tryz.zeroValue225
  t77 := Tryz.underlying194
  a77 := Tryz.isAgg194
  z77 := Tryz.sizeOf194
  v77 := Tryz.zeroValue194 }
end Go.Proofs
namespace Go.Proofs.YtbiahhojnjchnaaGreat
open Go.RowKit Go.Sort Go.Shelf Go.Lib
def toRR (r : Int × Int) : RR := if h : okR r = true then ⟨r, h⟩ else ⟨(0, 0), rfl⟩
theorem toRR_val {r : Int × Int} (h : okR r = true) : (toRR r).1 = r := by simp [toRR, h]
theorem rngs_flat (l : List (Int × Int)) (j : Nat) (hj : j < l.length * 2) : (rngs l)[j]? = some (if j % 2 = 0 then .int .i64 (l[j / 2]'(by omega)).1 else .int .i64 (l[j / 2]'(by omega)).2) := by
  obtain ⟨q1, q2⟩ := rngs_get l (j / 2) (by omega)
  rcases Nat.mod_two_eq_zero_or_one j with h | h
  · rw [if_pos h]
    have e : j / 2 * 2 = j := by omega
    rw [e] at q1; exact q1
  · rw [if_neg (by omega)]
    have e : j / 2 * 2 + 1 = j := by omega
    rw [e] at q2; exact q2
theorem flat_get (d : Array RR) (j : Nat) (hj : j < d.size * 2) : (flatK encRR 2 d).size = d.size * 2 ∧ (flatK encRR 2 d)[j]! = (if j % 2 = 0 then .int .i64 (d[j / 2]'(by omega)).1.1 else .int .i64 (d[j / 2]'(by omega)).1.2) := by
  have hs : (flatK encRR 2 d).size = d.size * 2 := by simp [flatK]
  refine ⟨hs, ?_⟩
  rw [getElem!_pos _ _ (by omega)]
  simp only [flatK, Array.getElem_map, Array.getElem_range]
  rw [getElem!_pos d (j / 2) (by omega)]
  rcases Nat.mod_two_eq_zero_or_one j with h | h <;> rw [h] <;> rfl
theorem below_grow {B : Nat} {w w' : World} (h : Below B w w') (hB : B ≤ w.heap.size) (os : Array Obj) : Below B w (grow w' os) := by
  refine ⟨h.os, h.tape, h.output, Nat.le_trans h.size (by simp [grow]), fun k hk => ?_⟩
  rw [← h.block k hk]
  have hlt : k < w'.heap.size := Nat.lt_of_lt_of_le (Nat.lt_of_lt_of_le hk hB) h.size
  show (w'.heap ++ os)[k]? = _
  rw [Array.getElem?_append_left hlt]
theorem ltRR (x y : RR) : ltOf cfRR x y = decide (x.1.1 < y.1.1) := by
  unfold ltOf cfRR
  by_cases h : x.1.1 < y.1.1
  · rw [decide_eq_true h, decide_eq_true (by omega)]
  · rw [decide_eq_false h, decide_eq_false (by omega)]
theorem swoRR : SWO (ltOf cfRR) where
  irrefl x := by rw [ltRR]; simp
  trans x y z h1 h2 := by
    rw [ltRR] at *
    have a := of_decide_eq_true h1
    have b := of_decide_eq_true h2
    exact decide_eq_true (by omega)
  ntrans x y z h1 h2 := by
    rw [ltRR] at *
    have a := of_decide_eq_false h1
    have b := of_decide_eq_false h2
    exact decide_eq_false (by omega)
theorem isAgg44 : ∀ w, (isAgg (Tryz.sortRng_ren.t 24)).run Tryz.prog w = .ok true w := fun w => by kernel_rfl
theorem sizeOf44 : ∀ w, (Go.sizeOf (Tryz.sortRng_ren.t 24)).run Tryz.prog w = .ok 2 w := fun w => by kernel_rfl
theorem cmpLays119 (blk off size : Nat) (w : World) : CmpLays Tryz.prog 105 #[] encRR 2 cfRR blk off size w := fun _ _ _ _ x y => by
  have hx := (okR_iff _).1 x.2
  have hy := (okR_iff _).1 y.2
  exact cmp119 x.1.1 x.1.2 y.1.1 y.1.2 _ (by omega) (by omega)
theorem sortC : SortC := by
  intro l A n c base w hn hok hown
  have hl := own_rngs_len hown
  rcases Nat.eq_zero_or_pos n with h0 | h0
  · subst h0
    have hl0 : l = [] := List.eq_nil_of_length_eq_zero hl.symm
    subst hl0
    exact (AnyF.slices_SortFunc_none Tryz.sortRng A c (.func (.func 105) #[] #[]) w).mono fun e w' ⟨he, hw⟩ => ⟨he, [], .refl _, .nil, Rds.nil_ _ _ _ _, by rw [hw]; exact Below.refl _ _⟩
  · obtain ⟨g, cap, hv, hg, hlt⟩ := hown.form h0
    have hA : A = some ⟨g, 0, none⟩ := by injection hv
    subst hA
    obtain ⟨d, hd⟩ : ∃ d : Array RR, d = (l.map toRR).toArray := ⟨_, rfl⟩
    have hds : d.size = n := by rw [hd]; simp [hl]
    have hdv : ∀ i (hi : i < d.size) (hi' : i < l.length), (d[i]).1 = l[i] := fun i hi hi' => by
      subst hd
      simp only [List.getElem_toArray, List.getElem_map]
      exact toRR_val (hok _ (List.getElem_mem hi'))
    have hfz : ∀ o, w.frozen? ⟨g, o, none⟩ = false := fun o => by
      rcases hown.2 with ⟨h, _⟩ | ⟨g', cap', cur, hv', _, hh, _⟩
      · cases h
      · have : g = g' := by injection hv' with h1; injection h1 with h1; injection h1
        subst this
        simp [World.frozen?, hh]
    have hcell := Rds.of_own hown
    obtain ⟨b', o', e1, _, hc⟩ := hcell.2 h0
    obtain ⟨rfl, rfl⟩ : g = b' ∧ 0 = o' := by injection e1 with e1; injection e1 with e1 e2; exact ⟨e1, e2⟩
    have hH : HoldsK encRR 2 w g 0 d := by
      intro j hj
      have hj2 : j < d.size * 2 := by rw [(flat_get d 0 (by omega)).1] at hj; exact hj
      refine ⟨?_, hfz _⟩
      have q := rngs_flat l j (by omega)
      have f := (flat_get d j hj2).2
      rw [hc j _ q, f]
      rw [hdv _ _ (by omega)]
      rfl
    have hs := AnyQ.slices_SortFunc Tryz.sortRng 2 isAgg44 sizeOf44 encRR (fun _ => rfl) (fun x v hv => by simp [encRR] at hv; rcases hv with rfl | rfl <;> rfl) cfRR swoRR 105 #[] g 0 c d w (enters_of Tryz.func105 (by kernel_rfl) rfl) (cmpLays119 g 0 d.size w) hH hlt (by omega)
    rw [hds] at hs
    refine Calls.mono hs ?_
    rintro e w' ⟨he, d', q, os, hp, hso, rfl⟩
    obtain ⟨hsz, _, hperm⟩ := hp
    have hbase : base ≤ w.heap.size := by omega
    refine ⟨he, d'.toList.map (·.1), ?_, ?_, ?_, ?_⟩
    · have e1 : (d'.extract 0 n).toList = d'.toList := by rw [show n = d'.size by omega]; simp
      have e2 : (d.extract 0 n).toList = d.toList := by rw [show n = d.size by omega]; simp
      rw [e1, e2] at hperm
      have hl2 : d.toList.map (·.1) = l := by
        refine List.ext_getElem (by simp [hds, hl]) fun i h1 h2 => ?_
        rw [List.getElem_map]
        exact hdv i (by simpa using h1) h2
      rw [← hl2]
      exact hperm.map _
    · rw [List.pairwise_map, List.pairwise_iff_getElem]
      intro i j hi hj hij
      have := hso i j (Nat.zero_le _) hij (by simp at hj; omega)
      rw [getElem!_pos d' i (by simpa using hi), getElem!_pos d' j (by simpa using hj), ltRR] at this
      have := of_decide_eq_false this
      simp only [Array.getElem_toList]
      omega
    · have hH2 : HoldsK encRR 2 (sortWorldK encRR 2 w g 0 q d' os) g 0 d' := by
        have k1 : HoldsK encRR 2 (putRowK encRR 2 (Sort.ahead w q) g 0 d') g 0 d' := holdsK_putRowK (enc := encRR) (k := 2) (Sort.ahead w q) g 0 d d' hH (by omega)
        exact holds_grow id _ os g 0 _ (by rw [size_putRowK]; exact hlt) k1
      refine ⟨by rw [rngs_length, List.length_map, Array.length_toList]; omega, fun _ => ⟨g, 0, rfl, ?_, fun j u hu => ?_⟩⟩
      · show g < (grow _ os).heap.size
        have : g < (putRowK encRR 2 (Sort.ahead w q) g 0 d').heap.size := by rw [size_putRowK]; exact hlt
        simp only [grow, Array.size_append]; omega
      · have hj : j < d'.size * 2 := by
          rcases Nat.lt_or_ge j (d'.size * 2) with h | h
          · exact h
          · rw [List.getElem?_eq_none (by rw [rngs_length, List.length_map, Array.length_toList]; exact h)] at hu; cases hu
        have f := flat_get d' j hj
        have c := (hH2 j (by rw [f.1]; exact hj)).1
        rw [f.2] at c
        rw [rngs_flat _ j (by rw [List.length_map, Array.length_toList]; exact hj)] at hu
        injection hu with hu
        rw [c, ← hu]
        simp only [List.getElem_map, Array.getElem_toList]
        rfl
    · exact below_grow (below_putRow (Below.refl base w) hg) hbase os
end Go.Proofs.YtbiahhojnjchnaaGreat
