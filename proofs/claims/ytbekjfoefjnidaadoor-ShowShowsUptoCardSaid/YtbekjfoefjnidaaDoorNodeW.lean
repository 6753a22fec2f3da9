/-
  Trees in memory: a node that came in, opened, and no row of kids in it is longer than the memory's reach allows.
-/
import Derived.Test.YtbekjfoefjnidaaDoorNode
import Derived.Test.YtbekjfoefjnidaaDoorFactP
import Derived.SizedLaws
namespace Go.Proofs.YtbekjfoefjnidaaDoor
open Go.RowKit
set_option linter.unusedVariables false
theorem flatL_mem {x : Tr} {ks : List Tr} (h : x ∈ flatL ks) : ∃ k ∈ ks, x ∈ flatT k := by
  induction ks with
  | nil => simp [flatL] at h
  | cons k ks ih =>
    rw [flatL, List.mem_append] at h
    rcases h with h | h
    · exact ⟨k, by simp, h⟩
    · obtain ⟨k', h1, h2⟩ := ih h; exact ⟨k', by simp [h1], h2⟩
section
open Go.ChangeShapes Go.WideShapes Go.Deep
variable {H : Type} {enc : TypeId × Value → H} {P : Program} {W : World} {base : Nat} {held : Bool}
theorem weights_all_mem {e : TypeId} {ys : List (DataW H)} {y : DataW H} (hy : y ∈ ys) : ∀ n ∈ y.weights P e, n ∈ DataW.weightsAll P e ys := by
  induction ys with
  | nil => cases hy
  | cons z ys ih =>
    intro n hn
    rw [DataW.weightsAll, List.mem_append]
    rcases List.mem_cons.1 hy with h | h
    · subst h; exact .inl hn
    · exact .inr (ih h n hn)
theorem arg_slice_w {t e : TypeId} {size : Nat} {α : Type} {vals : α → List Value} {Q : DataW H → α → Prop} {fuel : Nat} {cs : List Value} {x : DataW H × List MemPlace} (ht : P.underlying t = some (.slice e)) (hc : P.cellsOf e = size) (hsz : 0 < size)
    (hv : ∀ u, (vals u).length = size)
    (hel : ∀ n cs' y, n < fuel → DataW.trod enc P W base (fun _ => true) held n e cs' = some y → ∃ u, cs' = vals u ∧ Q y.1 u)
    (h : DataW.trod enc P W base (fun _ => true) held fuel t cs = some x) :
    ∃ (A : Option Addr) (n c : Nat) (l : List α), cs = [.slice A n c] ∧ n ≤ c ∧ c ≤ maxLen ∧ Rds W W.heap.size size A n (l.flatMap vals) ∧ l.length = n ∧
      ∀ u ∈ l, ∃ es sp, x.1 = .slice es sp ∧ es.length = n ∧ ∃ y ∈ es, Q y u := by
  rcases DataW.trod_slice ht h with ⟨rfl, _⟩ | ⟨a, len, cap, elems, rest, n, rfl, rfl, rfl, hb, hl, hm, hlen, hi, _, _⟩
  · exact ⟨none, 0, 0, [], rfl, Nat.le_refl _, Nat.zero_le _, Rds.nil_ _ _ _ _, rfl, by simp⟩
  · have hone : ∀ i, i < len → ∃ u, (∃ y ∈ elems.map (·.1), Q y u) ∧ ∀ j v, (vals u)[j]? = some v → W.cell? (a.add (i * size + j)) = some v := by
      intro i hil
      have h1 := hi i hil
      have h2 : elems[i]? = some (elems[i]'(by omega)) := List.getElem?_eq_getElem _
      rw [h2] at h1
      obtain ⟨cs', hcc, htt⟩ := Option.bind_eq_some_iff.1 h1
      obtain ⟨u, hu, hq⟩ := hel n cs' _ (Nat.lt_succ_self n) htt
      subst hu
      rw [hc] at hcc
      obtain ⟨_, hcl, hat⟩ := World.cells?_some hcc
      refine ⟨u, ⟨_, List.mem_map.2 ⟨_, List.getElem_mem (by omega), rfl⟩, hq⟩, fun j v hj => ?_⟩
      have hjs : j < size := by
        rcases Nat.lt_or_ge j size with h | h
        · exact h
        · rw [List.getElem?_eq_none (by rw [hv]; exact h)] at hj; cases hj
      have := hat j hjs
      rw [Go.Deep.add_add] at this
      rw [this, hj]
    have hex : ∀ k, k ≤ len → ∃ l : List α, l.length = k ∧ (∀ u ∈ l, ∃ y ∈ elems.map (·.1), Q y u) ∧ ∀ j v, (l.flatMap vals)[j]? = some v → W.cell? (a.add j) = some v := by
      intro k
      induction k with
      | zero => intro _; exact ⟨[], rfl, by simp, by simp⟩
      | succ k ih =>
        intro hk
        obtain ⟨l, hl1, hl2, hl3⟩ := ih (by omega)
        obtain ⟨u, hq, hu⟩ := hone k (by omega)
        refine ⟨l ++ [u], by simp [hl1], fun y hy => ?_, fun j v hj => ?_⟩
        · rcases List.mem_append.1 hy with hy | hy
          · exact hl2 y hy
          · rw [List.mem_singleton.1 hy]; exact hq
        · have hfl : (l.flatMap vals).length = k * size := by
            rw [← hl1]
            clear hl1 hl2 hl3 hj
            induction l with
            | nil => simp
            | cons y l ih => rw [List.flatMap_cons, List.length_append, ih, hv, List.length_cons, Nat.succ_mul]; omega
          rw [List.flatMap_append] at hj
          by_cases hj2 : j < (l.flatMap vals).length
          · rw [List.getElem?_append_left hj2] at hj; exact hl3 j v hj
          · rw [List.getElem?_append_right (by omega)] at hj
            have := hu (j - (l.flatMap vals).length) v (by simpa using hj)
            rw [hfl] at this hj2
            rwa [show k * size + (j - k * size) = j by omega] at this
    obtain ⟨l, hl1, hl2, hl3⟩ := hex len (Nat.le_refl _)
    have hfl : (l.flatMap vals).length = len * size := by
      rw [← hl1]
      clear hl1 hl2 hl3
      induction l with
      | nil => simp
      | cons y l ih => rw [List.flatMap_cons, List.length_append, ih, hv, List.length_cons, Nat.succ_mul]; omega
    refine ⟨_, len, cap, l, rfl, hl, hm, ⟨hfl, fun hn => ?_⟩, hl1, fun u hu => ⟨_, _, rfl, by rw [List.length_map]; exact hlen, hl2 u hu⟩⟩
    have h0 : ∃ v, (l.flatMap vals)[0]? = some v := ⟨_, List.getElem?_eq_getElem (by rw [hfl]; exact Nat.mul_pos hn hsz)⟩
    obtain ⟨v, hv0⟩ := h0
    have c0 := hl3 0 v hv0
    obtain ⟨b, off, spot⟩ := a
    obtain rfl : spot = none := addr_flat c0
    refine ⟨b, off, rfl, World.block_lt_of_cell? W _ (by rw [addr_add] at c0; exact c0), fun j u hu => ?_⟩
    have := hl3 j u hu
    rwa [addr_add] at this
/-- the fields of a struct of one-cell fields, opened, with the data that they are -/
theorem arg_fields_w {t : TypeId} {fs : Array Field} {fuel : Nat} {cs : List Value} {x : DataW H × List MemPlace} (ht : P.underlying t = some (.struct fs)) (hone : oneCellFields P fs = true) (hc : P.cellsOf t = fs.size)
    (h : DataW.trod enc P W base (fun _ => true) held fuel t cs = some x) :
    cs.length = fs.size ∧ ∃ n parts, n < fuel ∧ x.1 = .agg parts ∧ ∀ (i : Nat) (f : Field), fs[i]? = some f → ∃ v y, cs[i]? = some v ∧ DataW.trod enc P W base (fun _ => true) held n f.type [v] = some y ∧ parts[i]? = some y.1 := by
  obtain ⟨xs, n, rfl, rfl, hlen, hxs, hff⟩ := DataW.trod_struct ht h
  rw [hc] at hlen
  refine ⟨hlen, n, _, Nat.lt_succ_self n, rfl, fun i f hf => ?_⟩
  have hi : i < fs.size := (Array.getElem?_eq_some_iff.1 hf).1
  obtain ⟨o, k⟩ := hone_of hone i f hf
  have := hff i f hf
  rw [o, k] at this
  have h1 : cs[i]? = some (cs[i]'(by omega)) := List.getElem?_eq_getElem _
  have h2 : (cs.drop i).take 1 = [cs[i]'(by omega)] := by
    rw [List.drop_eq_getElem_cons (by omega)]; rfl
  rw [h2] at this
  refine ⟨_, xs[i]'(by omega), h1, ?_, ?_⟩
  · rw [this]
    exact List.getElem?_eq_getElem _
  · rw [List.getElem?_map, List.getElem?_eq_getElem (by omega : i < xs.length)]; rfl
theorem arg_node_w {T E : TypeId} {f0 f1 f2 f3 f4 f5 f6 f7 e0 e1 : Field} (hT : P.underlying T = some (.struct #[f0, f1, f2, f3, f4, f5, f6, f7])) (hone : oneCellFields P #[f0, f1, f2, f3, f4, f5, f6, f7] = true) (hc : P.cellsOf T = 8)
    (h0 : P.underlying f0.type = some (.int .i64)) (h1 : P.underlying f1.type = some (.slice E)) (hE : P.underlying E = some (.struct #[e0, e1])) (k0 : P.underlying e0.type = some (.int .i64)) (k1 : P.underlying e1.type = some (.int .i64)) (honeE : oneCellFields P #[e0, e1] = true) (hcE : P.cellsOf E = 2)
    (h2 : P.underlying f2.type = some (.slice T)) (h3 : P.underlying f3.type = some (.int .i64)) (h4 : P.underlying f4.type = some (.int .i64)) (h5 : P.underlying f5.type = some (.int .i64)) (h6 : P.underlying f6.type = some (.int .i64)) (h7 : P.underlying f7.type = some .bool) (hby : 64 ≤ P.bytesOf T) :
    ∀ (fuel : Nat) (cs : List Value) (x : DataW H × List MemPlace), DataW.trod enc P W base (fun _ => true) held fuel T cs = some x → ∃ (d : ND) (t : Tr), cs = d.vals ∧ NodeAt W W.heap.size t d ∧
      ((∀ n ∈ x.1.weights P T, n ≤ reachBytes) → ∀ y ∈ flatT t, y.kids.length ≤ 2199023255552) := by
  intro fuel
  induction fuel using Nat.strongRecOn with
  | _ fuel ih =>
    intro cs x h
    obtain ⟨hl, n, parts, hn, hx, hf⟩ := arg_fields_w hT hone hc h
    obtain ⟨v0, y0, a0, t0, _⟩ := hf 0 f0 rfl
    obtain ⟨v1, y1, a1, t1, _⟩ := hf 1 f1 rfl
    obtain ⟨v2, y2, a2, t2, hp2⟩ := hf 2 f2 rfl
    obtain ⟨v3, y3, a3, t3, _⟩ := hf 3 f3 rfl
    obtain ⟨v4, y4, a4, t4, _⟩ := hf 4 f4 rfl
    obtain ⟨v5, y5, a5, t5, _⟩ := hf 5 f5 rfl
    obtain ⟨v6, y6, a6, t6, _⟩ := hf 6 f6 rfl
    obtain ⟨v7, y7, a7, t7, _⟩ := hf 7 f7 rfl
    obtain ⟨z0, b0, _, _⟩ := DataW.trod_int h0 t0
    obtain ⟨z3, b3, _, _⟩ := DataW.trod_int h3 t3
    obtain ⟨z4, b4, _, _⟩ := DataW.trod_int h4 t4
    obtain ⟨z5, b5, _, _⟩ := DataW.trod_int h5 t5
    obtain ⟨z6, b6, _, _⟩ := DataW.trod_int h6 t6
    obtain ⟨z7, b7, _⟩ := DataW.trod_bool h7 t7
    obtain ⟨sA, sn, sc, s, b1, g1, g2, g3⟩ := arg_rngs_cells h1 hE k0 k1 honeE hcE t1
    obtain ⟨kA, kn, kc, ds, b2, g4, g5, g6, g8, g7⟩ := arg_slice_w (α := ND) (vals := ND.vals) (Q := fun y d => ∃ t, NodeAt W W.heap.size t d ∧ ((∀ n ∈ y.weights P T, n ≤ reachBytes) → ∀ y ∈ flatT t, y.kids.length ≤ 2199023255552)) h2 hc (by decide) (fun _ => rfl) (fun m cs' y hm hy => by
      obtain ⟨d, t, e, hd⟩ := ih m (by omega) cs' y hy
      exact ⟨d, e, t, hd⟩) t2
    simp at b0 b1 b2 b3 b4 b5 b6 b7
    subst b0 b1 b2 b3 b4 b5 b6 b7
    rw [nds_flat] at g6
    have hw2 : ∀ n ∈ y2.1.weights P f2.type, n ∈ x.1.weights P T := by
      intro m hm
      rw [hx]
      simp only [DataW.weights, hT]
      exact DataW.weights_mem_each (j := 2) (t := f2.type) (d := y2.1) rfl hp2 m hm
    have hks : ∀ l : List ND, (∀ u ∈ l, u ∈ ds) → ∃ ks, KidsAt W W.heap.size ks l ∧ ((∀ n ∈ x.1.weights P T, n ≤ reachBytes) → ∀ k ∈ ks, ∀ y ∈ flatT k, y.kids.length ≤ 2199023255552) := by
      intro l
      induction l with
      | nil => intro _; exact ⟨[], .nil, fun _ k hk => by cases hk⟩
      | cons u l ih2 =>
        intro hu
        obtain ⟨es, sp, hy2, hel, y, hy, t, ht, hs⟩ := g7 u (hu u (by simp))
        obtain ⟨ks, hks, hsm⟩ := ih2 fun x hx => hu x (by simp [hx])
        refine ⟨t :: ks, .cons ht hks, fun hall k hk => ?_⟩
        rcases List.mem_cons.1 hk with e | e
        · subst e
          refine hs fun m hm => hall m (hw2 m ?_)
          rw [hy2]
          simp only [DataW.weights, h2]
          exact List.mem_cons_of_mem _ (List.mem_append.2 (.inl (weights_all_mem hy m hm)))
        · exact hsm hall k e
    obtain ⟨ks, hks, hsm⟩ := hks ds (fun _ h => h)
    refine ⟨⟨z0, sA, sn, sc, kA, kn, kc, z3, z4, z5, z6, z7⟩, _, ?_, .mk g3 g1 g2 g6 g4 g5 hks, fun hall y hy => ?_⟩
    · match cs, hl with
      | [c0, c1, c2, c3, c4, c5, c6, c7], _ =>
        simp at a0 a1 a2 a3 a4 a5 a6 a7
        subst a0 a1 a2 a3 a4 a5 a6 a7
        rfl
    · rw [flatT_eq] at hy
      rcases List.mem_cons.1 hy with e | e
      · rw [e]
        show ks.length ≤ _
        rw [hks.len, g8]
        by_cases hz : ds = []
        · subst hz; simp at g8; omega
        · obtain ⟨u, hu⟩ := List.exists_mem_of_ne_nil ds hz
          obtain ⟨es, sp, hy2, hel, _⟩ := g7 u hu
          have h5 := hall ((es.length + sp.length) * P.bytesOf T) (hw2 _ (by rw [hy2]; simp [DataW.weights, h2]))
          have h6 : kn * 64 ≤ (es.length + sp.length) * P.bytesOf T := Nat.mul_le_mul (by omega) hby
          unfold reachBytes at h5
          omega
      · obtain ⟨k, hk, hyk⟩ := flatL_mem e
        exact hsm hall k hk y hyk
end
end Go.Proofs.YtbekjfoefjnidaaDoor
