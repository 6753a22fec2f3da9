/- Letters of the program: walked. -/
import Derived.Test.YtehlijnhhbdbhaaFoldG
import Derived.Test.YtehlijnhhbdbhaaFoldF
namespace Go.Proofs.Ytehlijnhhbdbhaa
open Go.RowKit
set_option linter.unusedVariables false
def letK (r : Pr) : Nat → List Int
  | 0 => []
  | j + 1 => letK r j ++ [r.f + r.s * j, r.f + r.s * j + r.b]
def cntP (r : Pr) : Nat := ((r.t - r.f) / r.s).toNat + 1
def letL (l : List Pr) : List Int := l.flatMap fun r => letK r (cntP r)
theorem letK_len (r : Pr) (k : Nat) : (letK r k).length = 2 * k := by
  induction k with
  | zero => rfl
  | succ k ih => simp [letK, ih]; omega
theorem mem_letK (r : Pr) (k : Nat) (x : Int) : x ∈ letK r k ↔ ∃ j, j < k ∧ (x = r.f + r.s * (j : Int) ∨ x = r.f + r.s * (j : Int) + r.b) := by
  induction k with
  | zero => simp [letK]
  | succ k ih =>
    simp only [letK, List.mem_append, ih, List.mem_cons, List.not_mem_nil, or_false]
    constructor
    · rintro (⟨j, h1, h2⟩ | h)
      · exact ⟨j, by omega, h2⟩
      · exact ⟨k, by omega, h⟩
    · rintro ⟨j, h1, h2⟩
      by_cases e : j = k
      · subst e; exact .inr h2
      · exact .inl ⟨j, by omega, h2⟩
def fine (r : Pr) : Bool := (r.s == 1 || r.s == 2) && decide (r.f ≤ r.t) && decide (cntP r ≤ 40)
theorem tbl_fine : ∀ r ∈ tbl, fine r = true := by decide
theorem fine_iff {r : Pr} (h : fine r = true) : (r.s = 1 ∨ r.s = 2) ∧ r.f ≤ r.t ∧ cntP r ≤ 40 := by simpa [fine, and_assoc] using h
theorem hit_cnt {r : Pr} (h : fine r = true) (x : Int) : hit r x = true ↔ ∃ j, j < cntP r ∧ x = r.f + r.s * (j : Int) := by
  obtain ⟨hs, hf, _⟩ := fine_iff h
  obtain ⟨f, t, b, s⟩ := r
  simp only at hs hf
  rw [hit_iff]
  simp only [cntP]
  rcases hs with rfl | rfl
  · constructor
    · rintro ⟨h1, h2, h3⟩; exact ⟨(x - f).toNat, by omega, by omega⟩
    · rintro ⟨j, h1, h2⟩; omega
  · constructor
    · rintro ⟨h1, h2, h3⟩; exact ⟨((x - f) / 2).toNat, by omega, by omega⟩
    · rintro ⟨j, h1, h2⟩; omega
theorem cnt_in {r : Pr} (h : fine r = true) {j : Nat} (hp : r.f + r.s * (j : Int) ≤ r.t) : j < cntP r := by
  obtain ⟨hs, hf, _⟩ := fine_iff h
  obtain ⟨f, t, b, s⟩ := r
  simp only [cntP] at *
  rcases hs with rfl | rfl <;> omega
theorem cnt_out {r : Pr} (h : fine r = true) {j : Nat} (hp : r.t < r.f + r.s * (j : Int)) (hj : j ≤ cntP r) : j = cntP r := by
  obtain ⟨hs, hf, _⟩ := fine_iff h
  obtain ⟨f, t, b, s⟩ := r
  simp only [cntP] at *
  rcases hs with rfl | rfl <;> omega
/-- the letters: who has another one in its orbit -/
theorem mem_letL (x : Int) : x ∈ letL tbl ↔ ∃ q, q ∈ besP x := by
  simp only [letL, List.mem_flatMap, mem_besP]
  constructor
  · rintro ⟨r, hr, hx⟩
    obtain ⟨j, h1, h2⟩ := (mem_letK r _ x).1 hx
    have hh : hit r (r.f + r.s * (j : Int)) = true := (hit_cnt (tbl_fine r hr) _).2 ⟨j, h1, rfl⟩
    rcases h2 with h2 | h2
    · exact ⟨x + r.b, r, hr, .inl ⟨by rw [h2]; exact hh, rfl⟩⟩
    · exact ⟨x - r.b, r, hr, .inr ⟨by rw [show x - r.b = r.f + r.s * (j : Int) by omega]; exact hh, rfl⟩⟩
  · rintro ⟨q, r, hr, h⟩
    refine ⟨r, hr, (mem_letK r _ x).2 ?_⟩
    rcases h with ⟨h, _⟩ | ⟨h, _⟩
    · obtain ⟨j, h1, h2⟩ := (hit_cnt (tbl_fine r hr) _).1 h
      exact ⟨j, h1, .inl h2⟩
    · obtain ⟨j, h1, h2⟩ := (hit_cnt (tbl_fine r hr) _).1 h
      exact ⟨j, h1, .inr (by omega)⟩
set_option maxRecDepth 100000 in
theorem letL_len : (letL tbl).length ≤ 400 := by decide +kernel
theorem letL_snoc (k : Nat) (h : k < tbl.length) : letL (tbl.take (k + 1)) = letL (tbl.take k) ++ letK tbl[k] (cntP tbl[k]) := flat_take2 _ _ _ h
theorem letL_take (k : Nat) : (letL (tbl.take k)).length ≤ 400 := by
  have h : letL tbl = letL (tbl.take k) ++ letL (tbl.drop k) := by
    unfold letL; rw [← List.flatMap_append, List.take_append_drop]
  have := letL_len
  rw [h, List.length_append] at this
  omega
theorem mem_upTo (d : Array Int) (m : Nat) (x : Int) : x ∈ Lib.compactUpTo d m ↔ ∃ j, j < m ∧ d[j]! = x := by
  induction m with
  | zero => simp [Lib.compactUpTo]
  | succ m ih =>
    rw [Lib.compactUpTo_succ, List.mem_append, ih]
    constructor
    · rintro (⟨j, h1, h2⟩ | h)
      · exact ⟨j, by omega, h2⟩
      · split at h
        · exact ⟨m, by omega, (List.mem_singleton.1 h).symm⟩
        · cases h
    · rintro ⟨j, h1, h2⟩
      by_cases e : j = m
      · subst e
        cases hk : Lib.keeps d j
        · left
          simp only [Lib.keeps, decide_eq_false_iff_not, not_or, Decidable.not_not] at hk
          exact ⟨j - 1, by omega, by rw [← hk.2]; exact h2⟩
        · right; simp [h2]
      · exact .inl ⟨j, by omega, h2⟩
theorem mem_compact (l : List Int) (x : Int) : x ∈ Lib.compact l ↔ x ∈ l := by
  rw [Lib.compact, mem_upTo, List.mem_iff_getElem]
  constructor
  · rintro ⟨j, h1, h2⟩; exact ⟨j, h1, by rw [← h2]; simp [h1]⟩
  · rintro ⟨j, h1, h2⟩; exact ⟨j, h1, by rw [← h2]; simp [h1]⟩
theorem BsRow.moreg {w W w3 : World} {v v3 : Value} {t t3 g : Nat} {l l3 : List Int} {cs : Obj} (h : BsRow w W v t l g) (ho : w3.ownsRow w.heap.size 3 1 v3 t3 (ints l3)) (hg : (W.alloc cs).grownBy w3 v.ownBlock)
    (ha : v3.ownBlock = v.ownBlock ∨ v3.ownBlock = some (W.heap.size + 1)) : BsRow w w3 v3 t3 l3 g := by
  obtain ⟨h1, h2, h3, h4, h5⟩ := h
  have hs := hg.size
  simp at hs
  refine ⟨ho, (h2.alloc h2.size _).grown hg (by simp; have := h2.size; omega) (fun k hk => (h1.lt k hk).1), (((h3.alloc (Nat.le_refl _) cs).grown_ne hg h5).more (by omega)), by omega, ?_⟩
  rcases ha with e | e
  · rw [e]; exact h5
  · rw [e]; intro e'; injection e' with e'; omega
/-- inner loop: the pairs of r up to p -/
def LetSt (r : Pr) (j : Nat) (p : Int) : Prop := j ≤ cntP r ∧ p = r.f + r.s * (j : Int)
theorem LetSt.next {r : Pr} {j : Nat} {p : Int} (h : LetSt r j p) (hf : fine r = true) (hp : p ≤ r.t) : LetSt r (j + 1) (p + r.s) ∧ letK r (j + 1) = letK r j ++ [p, p + r.b] ∧ j < 40 := by
  obtain ⟨h1, h2⟩ := h
  have h3 := cnt_in hf (j := j) (by omega)
  have h4 := (fine_iff hf).2.2
  refine ⟨⟨h3, ?_⟩, by rw [h2]; rfl, by omega⟩
  rw [show (((j + 1 : Nat)) : Int) = (j : Int) + 1 from rfl, Int.mul_add, Int.mul_one]; omega
theorem LetSt.done {r : Pr} {j : Nat} {p : Int} (h : LetSt r j p) (hf : fine r = true) (hp : ¬ p ≤ r.t) : j = cntP r := cnt_out hf (by have := h.2; omega) h.1
set_option maxRecDepth 100000 in
set_option maxHeartbeats 4000000 in
theorem letters140 (w : World) : Calls Try.prog 140 #[] w fun e w' => ∃ L, (∀ x, x ∈ L ↔ ∃ q, q ∈ besP x) ∧ L.length ≤ 400 ∧ OwnInts w L e w' := by
  go_enter Try.func140, Try.ntmps140
  go_wp2_with fail
  refine (table157 w).mono ?_
  rintro e w1 ⟨g, rfl, hr, hb⟩
  have hg1 : g < w1.heap.size := by
    obtain ⟨b1, _, _, h, hb, _⟩ := hr.pr_at (k := 0) (by decide)
    injection h with h
    injection h with h1 h2
    omega
  have RT := Lib.hid hr
  clear hr
  go_wp2_with fail
  go_loopw [1, 7] (fun v i wr => ∃ k t : Nat, k ≤ 13 ∧ i = .int .i64 k ∧ BsRow w wr v t (letL (tbl.take k)) g) (fun _ i _ => 13 - (intOf i).toNat)
  case atStart => exact ⟨0, 0, Nat.zero_le _, rfl, World.ownsRow_nil _ _ _ _, hb, RT.out, hg1, by simp [Value.ownBlock]⟩
  case round =>
    obtain ⟨k, t, hk, rfl, hown⟩ := hrel
    have HB0 := Lib.hid hown
    obtain ⟨Av, cv, rfl, hmc, hcv⟩ := own_slice hown.1
    have HTL := Lib.hid (own_ints_len hown.1)
    unfold maxLen at hcv
    by_cases hlt : k < 13
    · obtain ⟨b1, off1, hl1, hA, hb1, hc1, hc2, hc3, hc4⟩ := hown.2.2.1.pr_at hlt
      injection hA with hA
      injection hA with e1 e2
      subst e1 e2
      have hsz := hown.2.1.size
      clear hown
      have HT := Lib.hid (letL_snoc k hl1)
      have HF := Lib.hid (tbl_fine tbl[k] (List.getElem_mem hl1))
      have hok := tbl_ok tbl[k] (List.getElem_mem hl1)
      obtain ⟨r, hr⟩ : ∃ r, r = tbl[k] := ⟨_, rfl⟩
      rw [← hr] at hc1 hc2 hc3 hc4 HT HF hok
      clear hr
      obtain ⟨f, u, b, s⟩ := r
      simp only [okPr, Bool.and_eq_true, decide_eq_true_eq] at hok
      obtain ⟨⟨⟨⟨⟨⟨f0, f1⟩, u0⟩, u1⟩, b0⟩, bb⟩, hs⟩ := hok
      have hs2 : 1 ≤ s ∧ s ≤ 2 := by simp at hs; omega
      obtain ⟨s1, s2⟩ := hs2
      clear hs
      simp only [Nat.zero_add] at hc1 hc2 hc3 hc4
      have i1 : (0 : Int) ≤ (k : Int) := by omega
      have i2 : (k : Int) < 13 := by omega
      have n1 := World.new_ne wr
      have HLT := Lib.hid (fun q (hq : (Value.slice Av t cv).ownBlock = some q) => (HB0.out.1.lt q hq).2)
      go_wp2_with fail
      have HB1 := Lib.hid (HB0.out.alloc (.cells #[.int .i64 f, .int .i64 u, .int .i64 b, .int .i64 s] 147))
      have HX := Lib.hid (Box4.new wr f u b s 147)
      obtain ⟨wo, hwo⟩ : ∃ wo, wo = wr := ⟨_, rfl⟩
      have HZ := Lib.hid (show (wr.alloc (.cells #[.int .i64 f, .int .i64 u, .int .i64 b, .int .i64 s] 147)).heap.size = wr.heap.size + 1 by simp)
      generalize hbn : wr.heap.size = bn at *
      go_loopw [1, 4] (fun v i wr => ∃ (j t : Nat) (p : Int), i = .int .i64 p ∧ LetSt ⟨f, u, b, s⟩ j p ∧ f ≤ p ∧ BsRow w wr v t (letL (tbl.take k) ++ letK ⟨f, u, b, s⟩ j) g ∧ Box4 wr bn f u b s ∧ bn < wr.heap.size ∧ some bn ≠ v.ownBlock) (fun _ i _ => (u + 3 - intOf i).toNat)
      case atStart => exact ⟨0, t, f, rfl, ⟨Nat.zero_le _, by simp⟩, Int.le_refl _, by simpa [letK] using HB1.out, HX.out, by rw [HZ.out]; omega, fun e => by have := HLT.out _ e.symm; omega⟩
      case round =>
        clear hc1 hc2 hc3 hc4 n1 HX HB1 HZ
        obtain ⟨j, t2, p, rfl, hst, hfp, hB, hX, hbz, hne⟩ := hrel
        have HST := Lib.hid hst
        have HB := Lib.hid hB
        have HNE := Lib.hid hne
        obtain ⟨x1, x2, x3, x4⟩ := hX
        obtain ⟨A2, c2, rfl, hmc2, hcv2⟩ := own_slice hB.1
        have HTL2 := Lib.hid (own_ints_len hB.1)
        have hz := hB.2.1.size
        unfold maxLen at hcv2
        clear hst hB hne
        by_cases hpu : p ≤ u
        · have HNX := Lib.hid (HST.out.next HF.out hpu)
          have ht2 : t2 ≤ 500 := by
            have h1 := HTL2.out
            have h2 := letL_take k
            have h3 := HNX.out.2.2
            rw [List.length_append, letK_len] at h1
            omega
          have R := Lib.hid (Rds.new wr 1 2 #[.int .i64 p, .int .i64 (p + b)] 3 (ints [p, p + b]) rfl rfl)
          have n2 := World.new_ne wr
          go_wp2_with (at_builtin; refine app_ints (.tmp 21) (.tmp 27) (base := w.heap.size) (HB.out.1.alloc _) R.out (by omega) (by simp; omega) rfl rfl rfl rfl ?_; intro v3 w3 hown3 hg3 hat3; obtain ⟨y1, y2, y3, y4⟩ := (Box4.alloc ⟨x1, x2, x3, x4⟩ hbz (.cells #[.int .i64 p, .int .i64 (p + b)] 3)).grown hg3 HNE.out)
          have hs3 := hg3.size
          simp at hs3 hat3
          have HX3 := Lib.hid (show Box4 w3 bn f u b s from ⟨y1, y2, y3, y4⟩)
          have HB3 := Lib.hid (show BsRow w w3 v3 (t2 + 2) _ g from HB.out.moreg (by simpa using hown3) hg3 (by simpa using hat3))
          clear x1 x2 x3 x4
          go_roundw
          case rel => exact ⟨j + 1, t2 + 2, p + s, rfl, HNX.out.1, by omega, by rw [HNX.out.2.1]; exact HB3.out, HX3.out, by omega, fun e => by
            rcases hat3 with h | h
            · rw [h] at e; exact HNE.out e
            · rw [h] at e; injection e with e; omega⟩
          case measure => simp [intOf]; omega
        · have HD := Lib.hid (HST.out.done HF.out hpu)
          go_wp2
          go_roundw
          case rel => exact ⟨k + 1, t2, by omega, by go_num, by have := HB.out; rw [HD.out] at this; rw [HT.out]; exact this⟩
          case measure => simp [intOf]; omega
    · obtain rfl : k = 13 := by omega
      have HL := Lib.hid (show tbl.take 13 = tbl from rfl)
      have h1 := HB0.out.1
      have h2 := HB0.out.2.1
      rw [HL.out] at h1
      have H1 := Lib.hid h1
      have hz := h2.size
      have hl := letL_len
      have hn : t ≤ 400 := by rw [own_ints_len h1]; exact hl
      clear h1 hown
      go_wp2_with fail
      refine (sort139 (letL tbl) Av t cv w.heap.size wr (by omega) H1.out hz).mono ?_
      rintro e w2 ⟨rfl, hown2, hb2⟩
      have H2 := Lib.hid hown2
      have hz2 := hb2.size
      go_wp2_with fail
      refine (compact160 (srt (letL tbl)) Av t cv w.heap.size w2 (by omega) H2.out (by omega)).mono ?_
      rintro e w3 ⟨m, rfl, hown3, hb3⟩
      go_wp2
      go_ret
      refine ⟨Lib.compact (srt (letL tbl)), fun x => ?_, ?_, ownInts_of rfl hown3 ((h2.trans hb2).trans hb3)⟩
      · rw [mem_compact, (srt_perm _).mem_iff, mem_letL]
      · have a := compact_le (srt (letL tbl)); rw [srt_len] at a; omega
end Go.Proofs.Ytehlijnhhbdbhaa
