/- A pattern that came in, opened; what its bulk bounds. -/
import Derived.Test.YtbekjfoefjnidaaDoorFsAI
import Derived.Test.YtbekjfoefjnidaaDoorNodeW
import Derived.Test.YtbekjfoefjnidaaDoorRows
namespace Go.Proofs.YtbekjfoefjnidaaDoor
open Go.RowKit
set_option linter.unusedVariables false
namespace bulks
theorem one_le {H : Type} (d : DataW H) : 1 ≤ Rows.uptoBulk d := by
  cases d with
  | lit l => cases l <;> simp [Rows.uptoBulk]
  | nil => simp [Rows.uptoBulk]
  | ptr d => simp [Rows.uptoBulk]
  | slice elems spare => simp [Rows.uptoBulk]
  | agg parts => simp [Rows.uptoBulk]
  | iface t d => simp [Rows.uptoBulk]
  | map entries => simp [Rows.uptoBulk]
  | held h => simp [Rows.uptoBulk]
/-- a part's bulk is at most the whole's -/
theorem part_le {H : Type} {d : DataW H} {l : List (DataW H)} (h : d ∈ l) : Rows.uptoBulk d ≤ Rows.uptoBulkAll l := by
  induction l with
  | nil => cases h
  | cons x r ih =>
    simp only [Rows.uptoBulkAll]
    cases List.mem_cons.1 h with
    | inl e => subst e; omega
    | inr e => have := ih e; omega
theorem agg_le {H : Type} {d : DataW H} {l : List (DataW H)} (h : d ∈ l) : Rows.uptoBulk d ≤ Rows.uptoBulk (.agg l) := by
  have := part_le h
  simp only [Rows.uptoBulk]; omega
theorem slice_el {H : Type} {d : DataW H} {l s : List (DataW H)} (h : d ∈ l) : Rows.uptoBulk d ≤ Rows.uptoBulk (.slice l s) := by
  have := part_le h
  simp only [Rows.uptoBulk]; omega
theorem length_le {H : Type} (l : List (DataW H)) : l.length ≤ Rows.uptoBulkAll l := by
  induction l with
  | nil => simp
  | cons x r ih => have := one_le x; simp only [Rows.uptoBulkAll, List.length_cons]; omega
theorem slice_len {H : Type} (l s : List (DataW H)) : l.length ≤ Rows.uptoBulk (.slice l s) := by
  have := length_le l
  simp only [Rows.uptoBulk]; omega
theorem string_eq {H : Type} (bytes : List UInt8) : Rows.uptoBulk (DataW.lit (H := H) (.string bytes)) = bytes.length + 1 := by
  simp [Rows.uptoBulk]
end bulks
section
open Go.ChangeShapes Go.WideShapes Go.Deep
variable {H : Type} {enc : TypeId × Value → H} {W : World} {base : Nat} {held : Bool}
def patVals (d : ND) (gr : Int) (nA : Option Addr) (nn nc : Nat) : List Value := ND.vals d ++ [.int .i64 gr, .slice nA nn nc]
theorem arg_name {fuel : Nat} {cs : List Value} {x : DataW H × List MemPlace} (h : DataW.trod enc Tryd.prog W base (fun _ => true) held fuel 49 cs = some x) :
    ∃ u : ByteArray × Int, cs = nmVals u ∧ u.1.size ≤ maxLen ∧ (Lit.int .i64 u.2).wf = true ∧ u.1.size ≤ Rows.uptoBulk x.1 := by
  obtain ⟨hl, n, parts, hn, hx, hf⟩ := arg_fields_w Tryd.underlying49 (by kernel_rfl) (by kernel_rfl) h
  obtain ⟨v0, y0, a0, t0, p0⟩ := hf 0 _ rfl
  obtain ⟨v1, y1, a1, t1, _⟩ := hf 1 _ rfl
  obtain ⟨s, b0, g0, hs⟩ := DataW.trod_string Tryd.underlying9 t0
  obtain ⟨z, b1, _, hz⟩ := DataW.trod_int Tryd.underlying3 t1
  simp at b0 b1
  subst b0 b1
  refine ⟨(s, z), ?_, hs, hz, ?_⟩
  · match cs, hl with
    | [c0, c1], _ =>
      simp at a0 a1
      subst a0 a1
      rfl
  · rw [hx]
    refine Nat.le_trans ?_ (bulks.agg_le (List.mem_of_getElem? p0))
    rw [g0]
    show s.size ≤ _
    rw [bulks.string_eq]
    have : s.data.toList.length = s.size := by rw [Array.length_toList]; rfl
    omega
theorem nms_flat (l : List (ByteArray × Int)) : l.flatMap nmVals = nms l := rfl
set_option maxRecDepth 10000 in
theorem arg_pat {fuel : Nat} {cs : List Value} {x : DataW H × List MemPlace} (h : DataW.trod enc Tryd.prog W base (fun _ => true) held fuel 28 cs = some x) :
    ∃ (d : ND) (t : Tr) (gr : Int) (nA : Option Addr) (nn nc : Nat) (ns : List (ByteArray × Int)), cs = patVals d gr nA nn nc ∧ NodeAt W W.heap.size t d ∧
      ((∀ n ∈ x.1.weights Tryd.prog 28, n ≤ reachBytes) → ∀ y ∈ flatT t, y.kids.length ≤ 2199023255552) ∧ NamesAt W W.heap.size nA nn ns ∧ nn ≤ nc ∧ nc ≤ maxLen ∧ nn ≤ Rows.uptoBulk x.1 ∧ ∀ u ∈ ns, u.1.size ≤ Rows.uptoBulk x.1 := by
  obtain ⟨xs, n, rfl, rfl, hlen, hxs, hff⟩ := DataW.trod_struct Tryd.underlying28 h
  rw [show Tryd.prog.cellsOf 28 = 10 by kernel_rfl] at hlen
  have f0 : DataW.trod enc Tryd.prog W base (fun _ => true) held n 25 ((cs.drop 0).take (Tryd.prog.cellsOf 25)) = xs[0]? := hff 0 _ rfl
  have f1 : DataW.trod enc Tryd.prog W base (fun _ => true) held n 3 ((cs.drop 8).take (Tryd.prog.cellsOf 3)) = xs[1]? := hff 1 _ rfl
  have f2 : DataW.trod enc Tryd.prog W base (fun _ => true) held n 26 ((cs.drop 9).take (Tryd.prog.cellsOf 26)) = xs[2]? := hff 2 _ rfl
  rw [show Tryd.prog.cellsOf 25 = 8 by kernel_rfl] at f0
  rw [show Tryd.prog.cellsOf 3 = 1 by kernel_rfl] at f1
  rw [show Tryd.prog.cellsOf 26 = 1 by kernel_rfl] at f2
  match xs, hxs with
  | [x0, x1, x2], _ =>
    simp only [List.getElem?_cons_zero, List.getElem?_cons_succ] at f0 f1 f2
    obtain ⟨d, t, e0, hn, hsm⟩ := arg_node_w Tryd.underlying25 (by kernel_rfl) (by kernel_rfl) Tryd.underlying3 Tryd.underlying22 Tryd.underlying64 Tryd.underlying3 Tryd.underlying3 (by kernel_rfl) (by kernel_rfl) Tryd.underlying23 Tryd.underlying3 Tryd.underlying3 Tryd.underlying3 Tryd.underlying3 Tryd.underlying4 (by decide +kernel) n _ _ f0
    obtain ⟨gr, e1, _, hgr⟩ := DataW.trod_int Tryd.underlying3 f1
    obtain ⟨nA, nn, nc, ns, e2, hnc, hcm, hr, hnl, hq⟩ := arg_slice_w (α := ByteArray × Int) (vals := nmVals) (Q := fun y u => u.1.size ≤ maxLen ∧ (Lit.int .i64 u.2).wf = true ∧ u.1.size ≤ Rows.uptoBulk y) (size := 2) Tryd.underlying26 (by kernel_rfl) (by decide) (fun _ => rfl) (fun m cs' y _ hy => by
      obtain ⟨u, h1, h2⟩ := arg_name hy
      exact ⟨u, h1, h2⟩) f2
    have hb2 : Rows.uptoBulk x2.1 ≤ Rows.uptoBulk (DataW.agg ([x0, x1, x2].map (·.1))) := bulks.agg_le (by simp)
    refine ⟨d, t, gr, nA, nn, nc, ns, ?_, hn, fun hall => hsm fun m hm => hall m ?_, ⟨by rw [nms_flat] at hr; exact hr, hnl, fun u hu => ?_, fun u hu => ?_⟩, hnc, hcm, ?_, fun u hu => ?_⟩
    · unfold patVals
      rw [← e0]
      simp only [List.drop_zero] at e1 e2 ⊢
      have h3 : cs = cs.take 8 ++ ((cs.drop 8).take 1 ++ (cs.drop 9).take 1) := by
        match cs, hlen with
        | [c0, c1, c2, c3, c4, c5, c6, c7, c8, c9], _ => rfl
      rw [e1, e2] at h3
      exact h3
    · simp only [DataW.weights, Tryd.underlying28]
      exact DataW.weights_mem_each (j := 0) (t := 25) (d := x0.1) rfl rfl m hm
    · obtain ⟨es, sp, _, _, y, _, h1, _, _⟩ := hq u hu; exact h1
    · obtain ⟨es, sp, _, _, y, _, _, h1, _⟩ := hq u hu; exact h1
    · refine Nat.le_trans ?_ hb2
      rcases Nat.eq_zero_or_pos nn with h0 | h0
      · omega
      · obtain ⟨u, hu⟩ := List.exists_mem_of_length_pos (show 0 < ns.length by omega)
        obtain ⟨es, sp, h1, h2, _⟩ := hq u hu
        have := bulks.slice_len es sp
        rw [← h1] at this
        omega
    · refine Nat.le_trans ?_ hb2
      obtain ⟨es, sp, h1, h2, y, hy, _, _, h3⟩ := hq u hu
      have := bulks.slice_el (s := sp) hy
      rw [← h1] at this
      omega
end
end Go.Proofs.YtbekjfoefjnidaaDoor
