/- A slice of slices of ranges that came in, opened. -/
import Derived.Test.YtehlijnhhbdbhaaSplA
namespace Go.Proofs.Ytehlijnhhbdbhaa
open Go.RowKit Go.ChangeShapes Go.WideShapes Go.Deep
set_option linter.unusedVariables false
theorem Sls.app {w : World} {X : Nat} {vs us : List Value} {ls ms : List (List (Int × Int))} (h : Sls w X vs ls) (k : Sls w X us ms) : Sls w X (vs ++ us) (ls ++ ms) := by
  refine ⟨by rw [List.length_append, List.length_append, h.1, k.1], fun j h1 h2 => ?_⟩
  by_cases hj : j < vs.length
  · rw [List.getElem_append_left hj, List.getElem_append_left (by rw [← h.1]; exact hj)]
    exact h.2 j hj _
  · rw [List.getElem_append_right (by omega), List.getElem_append_right (by rw [← h.1]; omega)]
    simp only [h.1]
    exact k.2 _ (by rw [List.length_append] at h1; rw [← h.1]; omega) _
theorem Sls.single {w : World} {X n c : Nat} {A : Option Addr} {a : List (Int × Int)} (hnc : n ≤ c) (hc : c ≤ maxLen) (h : Rds w X 2 A n (rngs a)) : Sls w X [.slice A n c] [a] :=
  ⟨rfl, fun k h1 h2 => by
    have : k = 0 := by simp at h1; omega
    subst this
    exact ⟨A, n, c, rfl, hnc, hc, h⟩⟩
section
variable {H : Type} {enc : TypeId × Value → H} {P : Program} {W : World} {base : Nat} {spare : Nat → Bool} {held : Bool}
theorem arg_roads {t e e2 : TypeId} {f0 f1 : Field} {a : Option Addr} {len cap : Nat} {d : DataW H} {p : List MemPlace} (ht : P.underlying t = some (.slice e)) (he : P.underlying e = some (.slice e2)) (he2 : P.underlying e2 = some (.struct #[f0, f1]))
    (h0 : P.underlying f0.type = some (.int .i64)) (h1 : P.underlying f1.type = some (.int .i64)) (hone : oneCellFields P #[f0, f1] = true) (hc : P.cellsOf e = 1) (hc2 : P.cellsOf e2 = 2)
    (h : DataW.Trod enc P W base (fun _ => true) held t (.slice a len cap) d p) :
    ∃ (ls : List (List (Int × Int))) (vs : List Value), Rds W W.heap.size 1 a len vs ∧ Sls W W.heap.size vs ls ∧ len ≤ cap ∧ cap ≤ maxLen := by
  obtain ⟨fuel, hf⟩ := h
  rcases open_slice ht hf with ⟨hcs, _⟩ | ⟨x, l, c, m, n, D, Pl, hcs, _, hl, hm, hmm, _, hi⟩
  · simp [Value.cells] at hcs
    obtain ⟨rfl, rfl, rfl⟩ := hcs
    exact ⟨[], [], Rds.nil_ _ _ _ _, ⟨rfl, fun k h => by simp at h⟩, Nat.le_refl _, Nat.zero_le _⟩
  · simp [Value.cells] at hcs
    obtain ⟨rfl, rfl, rfl⟩ := hcs
    simp only [if_true] at hmm
    have hel : ∀ i, i < len → ∃ (v : Value) (r : List (Int × Int)), W.cell? (x.add i) = some v ∧ Sls W W.heap.size [v] [r] := by
      intro i hil
      obtain ⟨cs', hcc, htt⟩ := hi i (by omega)
      rw [hc, Nat.mul_one] at hcc
      obtain ⟨_, hcl, hat⟩ := World.cells?_some hcc
      have a0 := hat 0 (by omega)
      rw [Go.Deep.add_add] at a0
      simp only [Nat.add_zero] at a0
      rcases open_slice he htt with ⟨hcs, _⟩ | ⟨x', l', c', m', n', D', Pl', hcs, _, hl', hm', _, _, _⟩
      · subst hcs
        exact ⟨_, [], by simpa using a0, Sls.single (Nat.le_refl _) (Nat.zero_le _) (Rds.nil_ _ _ _ _)⟩
      · subst hcs
        obtain ⟨r, hr, _, _, _⟩ := arg_rngs (enc := enc) (base := base) (held := held) (d := D i) (p := Pl i) he he2 h0 h1 hone hc2 (a := some x') (len := l') (cap := c') ⟨n, by simpa [Value.cells] using htt⟩
        exact ⟨_, r, by simpa using a0, Sls.single hl' hm' hr⟩
    have hex : ∀ k, k ≤ len → ∃ (ls : List (List (Int × Int))) (vs : List Value), vs.length = k ∧ (∀ i (hik : i < vs.length), W.cell? (x.add i) = some vs[i]) ∧ Sls W W.heap.size vs ls := by
      intro k
      induction k with
      | zero => intro _; exact ⟨[], [], rfl, by simp, ⟨rfl, fun k h => by simp at h⟩⟩
      | succ k ih =>
        intro hk
        obtain ⟨ls, vs, hl1, hl2, hl3⟩ := ih (by omega)
        obtain ⟨v, r, g1, g2⟩ := hel k (by omega)
        refine ⟨ls ++ [r], vs ++ [v], by simp [hl1], fun i hik => ?_, hl3.app g2⟩
        by_cases hik2 : i < vs.length
        · rw [List.getElem_append_left hik2]; exact hl2 i hik2
        · have : i = vs.length := by simp at hik; omega
          subst this
          simp only [List.getElem_concat_length]
          rw [hl1]
          exact g1
    obtain ⟨ls, vs, hl1, hl2, hl3⟩ := hex len (Nat.le_refl _)
    refine ⟨ls, vs, ⟨by omega, fun hn => ?_⟩, hl3, hl, hm⟩
    have c0 := hl2 0 (by omega)
    obtain ⟨b, off, spot⟩ := x
    obtain rfl : spot = none := addr_flat c0
    refine ⟨b, off, rfl, World.block_lt_of_cell? W _ (by rw [addr_add] at c0; exact c0), fun j u hu => ?_⟩
    have hj : j < vs.length := by
      rcases Nat.lt_or_ge j vs.length with h | h
      · exact h
      · rw [List.getElem?_eq_none h] at hu; cases hu
    have := hl2 j hj
    rw [addr_add] at this
    rw [this]
    rw [List.getElem?_eq_getElem hj] at hu
    exact hu
end
/-! plain: along, at a place -/
theorem byt_extract (s : ByteArray) (a b i : Nat) (hb : b ≤ s.size) (hi : a + i < b) : byt (s.extract a b) i = byt s (a + i) := by
  unfold byt
  have h1 : i < (s.extract a b).size := by rw [ByteArray.size_extract]; omega
  have h2 : a + i < s.size := by omega
  rw [dif_pos h1, dif_pos h2, ByteArray.getElem_extract]
theorem goes_fits {r : List (Int × Int)} {s : ByteArray} {m : Nat} (h : m + r.length ≤ s.size) : goesB r (s.extract m (m + r.length)) ↔ fitsB r (s.extract m s.size) = true := by
  unfold goesB fitsB
  have h1 : (s.extract m (m + r.length)).size = r.length := by rw [ByteArray.size_extract]; omega
  have h2 : (s.extract m s.size).size = s.size - m := by rw [ByteArray.size_extract]; omega
  rw [h1, h2, Bool.and_eq_true, decide_eq_true_eq, decide_eq_true_eq]
  unfold along
  constructor
  · rintro ⟨_, k⟩
    refine ⟨by omega, fun i hi hk => ?_⟩
    have := k i hi hk
    rw [byt_extract s m _ i (by omega) (by omega)] at this
    rw [byt_extract s m _ i (Nat.le_refl _) (by omega)]
    exact this
  · rintro ⟨_, k⟩
    refine ⟨rfl, fun i hi hk => ?_⟩
    have := k i hi hk
    rw [byt_extract s m _ i (Nat.le_refl _) (by omega)] at this
    rw [byt_extract s m _ i (by omega) (by omega)]
    exact this
theorem fits_long {r : List (Int × Int)} {s : ByteArray} {m : Nat} (hm : m ≤ s.size) (h : ¬ m + r.length ≤ s.size) : fitsB r (s.extract m s.size) = false :=
  fitsB_no1 (by rw [ByteArray.size_extract]; omega)
theorem goesN_one (r : List (Int × Int)) (s : ByteArray) : goesN [r] s = if goesB r s then 1 else 0 := by
  unfold goesN
  by_cases h : goesB r s <;> simp [h]
end Go.Proofs.Ytehlijnhhbdbhaa
