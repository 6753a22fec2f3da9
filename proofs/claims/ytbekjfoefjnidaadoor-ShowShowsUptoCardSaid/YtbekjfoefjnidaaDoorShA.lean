/- The writer of show: a Builder that lies in a struct, beside a map; what writes: walked. -/
import Derived.Test.YtbekjfoefjnidaaDoorFsG
import Derived.Lib.Strings
import Derived.Lib.Builder
import Derived.Lib.AppendStr
import Derived.Lib.UnsafeStr
import Derived.Laws.Externs
import Derived.Deep.RegionHeld3
namespace Go.Proofs.YtbekjfoefjnidaaDoor
open Go.RowKit
set_option linter.unusedVariables false
/-- a writer in block b: its bytes, its map -/
def WrAt (b g : Nat) (p : Value) (bs : List Value) (w : World) : Prop :=
  ∃ v, w.heap[b]? = some (.cells #[p, v, .map (some g)] 58 (0, 0)) ∧ w.ownsRow b 5 1 v bs.length bs ∧ v.ownBlock ≠ some b
def IsWr (b g : Nat) (bs : List Value) (w : World) : Prop := WrAt b g (.pointer none) bs w ∨ WrAt b g (.pointer (some ⟨b, 0, none⟩)) bs w
/-- what writing leaves -/
structure Wrote (b : Nat) (w w' : World) : Prop where
  below : Below b w w'
  keep : ∀ k, k < w.heap.size → k ≠ b → (∀ cs fr, w.heap[k]? ≠ some (.cells cs 5 fr)) → w'.heap[k]? = w.heap[k]?
theorem WrAt.lt {b g : Nat} {p : Value} {bs : List Value} {w : World} (h : WrAt b g p bs w) : b < w.heap.size := by
  obtain ⟨v, hb, _⟩ := h
  rcases Nat.lt_or_ge b w.heap.size with h' | h'
  · exact h'
  · simp [Array.getElem?_eq_none h'] at hb
theorem IsWr.lt {b g : Nat} {bs : List Value} {w : World} (h : IsWr b g bs w) : b < w.heap.size := by
  rcases h with h | h
  · exact h.lt
  · exact h.lt
theorem WrAt.shape {b g : Nat} {p : Value} {bs : List Value} {w : World} (h : WrAt b g p bs w) : w.shape? b = some (58, 3) := by
  obtain ⟨v, hb, _⟩ := h
  simp [World.shape?, hb]
theorem builder_size : (Tryd.prog.info? 56).map (fun i => (i.size)) = some 2 := by kernel_rfl
theorem builder_lies : liesAt Tryd.prog Tryd.prog.depth 58 (3 / Tryd.prog.cellsOf 58) 0 56 1 = true := by kernel_rfl
theorem byte_ne58 : (58 : TypeId) ≠ 5 := by decide
theorem WrAt.used {b g : Nat} {p : Value} {bs : List Value} {w : World} (h : WrAt b g p bs w) (q : Value) : WrAt b g q bs (w.setCell ⟨b, 0, none⟩ q) := by
  obtain ⟨v, hb, hown, hne⟩ := h
  refine ⟨v, ?_, ?_, hne⟩
  · simp [World.setCell, Array.getElem?_modify, hb]
  · refine hown.kept (row := some b) ⟨rfl, rfl, rfl, by simp [World.setCell], fun k _ hk => Below.heap_setCell _ _ _ _ (fun e => hk (by simp [e]))⟩ ?_
    exact Or.inr hne
theorem WrAt.put {b g : Nat} {p v v' : Value} {bs' : List Value} {w : World} (hb : w.heap[b]? = some (.cells #[p, v, .map (some g)] 58 (0, 0))) (hown : w.ownsRow b 5 1 v' bs'.length bs') :
    WrAt b g p bs' (w.setCell ⟨b, 1, none⟩ v') := by
  have hne := Lib.ownBlock_ne hown hb byte_ne58
  refine ⟨v', ?_, ?_, hne⟩
  · simp [World.setCell, Array.getElem?_modify, hb]
  · exact hown.kept (row := some b) ⟨rfl, rfl, rfl, by simp [World.setCell], fun k _ hk => Below.heap_setCell _ _ _ _ (fun e => hk (by simp [e]))⟩ (Or.inr hne)
theorem Wrote.refl (b : Nat) (w : World) : Wrote b w w := ⟨Below.refl _ _, fun _ _ _ _ => rfl⟩
theorem Wrote.trans {b : Nat} {w w1 w2 : World} (h1 : Wrote b w w1) (h2 : Wrote b w1 w2) : Wrote b w w2 :=
  ⟨h1.below.trans h2.below, fun k hk hb hn => by
    have e1 := h1.keep k hk hb hn
    rw [h2.keep k (Nat.lt_of_lt_of_le hk h1.below.size) hb (by rw [e1]; exact hn), e1]⟩
theorem Wrote.set {b : Nat} (w : World) (j : Nat) (u : Value) : Wrote b w (w.setCell ⟨b, j, none⟩ u) :=
  ⟨(Below.refl _ _).setCell (p := ⟨b, j, none⟩) (Nat.le_refl _) _, fun k hk hb _ => Below.heap_setCell _ _ _ _ (fun e => hb e)⟩
set_option maxHeartbeats 1000000 in
set_option maxRecDepth 100000 in
theorem copyCheck48 (b g : Nat) (bs : List Value) (w : World) (h : IsWr b g bs w) :
    Calls Tryd.prog 48 #[.pointer (some ⟨b, 0, none⟩)] w fun e w' => e = .returned (.tuple #[]) ∧ WrAt b g (.pointer (some ⟨b, 0, none⟩)) bs w' ∧ Wrote b w w' := by
  obtain ⟨j, hj, hjs⟩ := Option.map_eq_some_iff.1 builder_size
  rcases h with h | h
  · have hsh := h.shape
    have H := Lib.hid (h.used (.pointer (some ⟨b, 0, none⟩)))
    obtain ⟨v, hb, hown, hne⟩ := h
    have h0 : w.cell? ⟨b, 0, none⟩ = some (.pointer none) := by rw [Lib.cell_of_heap hb]; rfl
    have hfz : w.frozen? ⟨b, 0, none⟩ = false := Lib.frozen_of_heap hb 0
    clear hown hne hb
    go_enter Tryd.func48, Tryd.ntmps48
    go_wp2
    rw [Lib.run_to_unsafe w ⟨b, 0, none⟩ Tryd.underlying53 Tryd.underlying89 hj (by rw [hjs]; decide) hsh (Nat.zero_lt_succ 2)]
    simp only [Result.andThen]
    rw [Oper.upon_value]
    go_wp2
    rw [run_callFunc_extern Tryd.func54 (by kernel_rfl) (by kernel_rfl) (by kernel_rfl) (e := Extern.AbiNoEscape.same) (by kernel_rfl)]
    rw [Lib.run_noEscape]
    simp only [Result.andThen]
    rw [Oper.upon_value]
    go_wp2
    rw [Lib.run_from_unsafe w ⟨b, 0, none⟩ Tryd.underlying89 Tryd.underlying53 hj hsh builder_lies]
    simp only [Result.andThen]
    rw [Oper.upon_value]
    go_wp2
    go_end0
    exact ⟨rfl, H.out, Wrote.set w 0 _⟩
  · have H := Lib.hid h
    obtain ⟨v, hb, hown, hne⟩ := h
    have h0 : w.cell? ⟨b, 0, none⟩ = some (.pointer (some ⟨b, 0, none⟩)) := by rw [Lib.cell_of_heap hb]; rfl
    clear hown hne hb
    go_enter Tryd.func48, Tryd.ntmps48
    go_wp2
    rw [Lib.run_neq_ptr_same w _ Tryd.underlying53 hj]
    go_wp2
    go_end0
    exact ⟨rfl, H.out, Wrote.refl _ _⟩
theorem byteI : (Tryd.prog.info? 5).map (fun i => (i.zero, i.size, i.bytes)) = some (some (.int .u8 0), 1, 1) := by kernel_rfl
theorem Wrote.grown {b : Nat} {w w' : World} {v : Value} {n : Nat} {xs : List Value} (hown : w.ownsRow b 5 1 v n xs) (hb : b ≤ w.heap.size) (hg : w.grownBy w' v.ownBlock) : Wrote b w w' :=
  ⟨(Below.refl _ _).grown hg hb (fun k hk => (hown.lt k hk).1), fun k hk hbk hn => hg.block k hk (fun e => by
    rcases hown.2 with ⟨rfl, _⟩ | ⟨g, cap, cur, rfl, _, hgk, _⟩
    · simp [Value.ownBlock] at e
    · simp [Value.ownBlock] at e; subst e; exact hn _ _ hgk)⟩
set_option maxHeartbeats 2000000 in
set_option maxRecDepth 100000 in
theorem writeString43 (b g : Nat) (bs : List Value) (s : ByteArray) (w : World) (h : IsWr b g bs w) (hlen : bs.length + s.size ≤ 140737488355328) :
    Calls Tryd.prog 43 #[.pointer (some ⟨b, 0, none⟩), .string s] w fun e w' => e = .returned (.tuple #[.int .i64 s.size, .nilIface]) ∧ WrAt b g (.pointer (some ⟨b, 0, none⟩)) (bs ++ Lib.strCells s) w' ∧ Wrote b w w' := by
  obtain ⟨i0, hi, hz0, hz1, hz2⟩ := info_parts byteI
  have C := Lib.hid (copyCheck48 b g bs w h)
  clear h
  go_enter Tryd.func43, Tryd.ntmps43
  go_wp2_with (go_at_call 48; refine C.out.mono ?_)
  rintro e w1 ⟨rfl, h1, hb1⟩
  have HB1 := Lib.hid hb1
  have hlt := h1.lt
  obtain ⟨v, hbk, hown, hne⟩ := h1
  clear hb1
  have c0 : w1.cell? ⟨b, 0, none⟩ = some (.pointer (some ⟨b, 0, none⟩)) := by rw [Lib.cell_of_heap hbk]; rfl
  have c1 : w1.cell? ⟨b, 1, none⟩ = some v := by rw [Lib.cell_of_heap hbk]; rfl
  go_wp2_with (at_builtin; refine Lib.wpList_append_own_string _ rfl _ _ 54 9 rfl b 5 i0 Tryd.underlying54 Tryd.underlying9 hi hz0 hz1 hz2 _ _ _ rfl hown s rfl ?c3 ?c4 ?c5 ?_)
  case c3 => unfold maxLen; omega
  case c4 => omega
  case c5 => omega
  intro v' w2 hown' hgrow _
  have hb2 : w2.heap[b]? = some (.cells #[.pointer (some ⟨b, 0, none⟩), v, .map (some g)] 58 (0, 0)) := by
    rw [hgrow.block b hlt (fun e => hne e.symm)]
    exact hbk
  have d0 : w2.cell? ⟨b, 0, none⟩ = some (.pointer (some ⟨b, 0, none⟩)) := by rw [Lib.cell_of_heap hb2]; rfl
  have d1 : w2.cell? ⟨b, 1, none⟩ = some v := by rw [Lib.cell_of_heap hb2]; rfl
  have f1 : w2.frozen? ⟨b, 1, none⟩ = false := Lib.frozen_of_heap hb2 1
  have HG := Lib.hid (Wrote.grown hown (Nat.le_of_lt hlt) hgrow)
  have HP := Lib.hid (WrAt.put hb2 (bs' := bs ++ Lib.strCells s) (by simpa [Lib.strCells_length] using hown'))
  obtain ⟨ao, n', cap, rfl⟩ : ∃ ao n' cap, v' = .slice ao n' cap := by
    rcases hown'.2 with ⟨hv, _⟩ | ⟨g, cap, cur, hv, _⟩
    · exact ⟨_, _, _, hv⟩
    · exact ⟨_, _, _, hv⟩
  clear hown hown' hgrow hne hbk hb2
  go_wp2
  go_ret2
  exact ⟨rfl, HP.out, (HB1.out.trans HG.out).trans (Wrote.set _ 1 _)⟩
/-- texts one behind the other, as cells -/
def catC (l : List ByteArray) : List Value := l.flatMap Lib.strCells
theorem catC_take (l : List ByteArray) (k : Nat) (h : k < l.length) : catC (l.take (k + 1)) = catC (l.take k) ++ Lib.strCells l[k] := by
  unfold catC; rw [List.take_succ_eq_append_getElem h, List.flatMap_append]; simp
theorem catC_len_take (l : List ByteArray) (k : Nat) : (catC (l.take k)).length ≤ (catC l).length := by
  have : catC l = catC (l.take k) ++ catC (l.drop k) := by unfold catC; rw [← List.flatMap_append, List.take_append_drop]
  rw [this, List.length_append]; omega
theorem Wrote.row {b r : Nat} {w w' : World} {cs : Array Value} {T : TypeId} (h : Wrote b w w') (hr : w.heap[r]? = some (.cells cs T (0, 0))) (hb : r ≠ b) (hT : T ≠ 5) : w'.heap[r]? = some (.cells cs T (0, 0)) := by
  have hlt : r < w.heap.size := by
    rcases Nat.lt_or_ge r w.heap.size with h' | h'
    · exact h'
    · simp [Array.getElem?_eq_none h'] at hr
  rw [h.keep r hlt hb (fun cs' fr e => by rw [hr] at e; injection e with e; injection e with _ e _; exact hT e), hr]
set_option maxHeartbeats 2000000 in
set_option maxRecDepth 100000 in
theorem put33 (b g r : Nat) (bs : List Value) (l : List ByteArray) (w : World) (h : IsWr b g bs w) (hr : w.heap[r]? = some (.cells (l.map Value.string).toArray 9 (0, 0))) (hrb : r ≠ b) (hlen : bs.length + (catC l).length ≤ 140737488355328) (hll : l.length ≤ 1000000) :
    Calls Tryd.prog 33 #[.pointer (some ⟨b, 0, none⟩), .slice (some ⟨r, 0, none⟩) l.length l.length] w fun e w' => e = .returned (.tuple #[]) ∧ IsWr b g (bs ++ catC l) w' ∧ Wrote b w w' := by
  have HW := Lib.hid h
  have HR := Lib.hid hr
  clear h hr
  go_enter Tryd.func33, Tryd.ntmps33
  go_wp2_with fail
  go_loopw [8] (fun i wr => ∃ k : Nat, k ≤ l.length ∧ i = .int .i64 k ∧ Hid (IsWr b g (bs ++ catC (l.take k)) wr) ∧ Hid (Wrote b w wr)) (fun i _ => l.length - (intOf i).toNat)
  case atStart => exact ⟨0, Nat.zero_le _, rfl, Lib.hid (by simpa [catC] using HW.out), Lib.hid (Wrote.refl _ _)⟩
  case round =>
    obtain ⟨k, hk, rfl, HI, HB⟩ := hrel
    by_cases hlt : k < l.length
    · have hrow := HB.out.row HR.out hrb (by decide)
      have c : wr.cell? ⟨r, k, none⟩ = some (.string l[k]) := by rw [Lib.cell_of_heap hrow]; simp [hlt]
      have HT := Lib.hid (catC_take l k hlt)
      have hl2 := catC_len_take l (k + 1)
      rw [HT.out, List.length_append, Lib.strCells_length] at hl2
      have C := Lib.hid (writeString43 b g (bs ++ catC (l.take k)) l[k] wr HI.out (by rw [List.length_append]; omega))
      obtain ⟨s, hs⟩ : ∃ s, s = l[k] := ⟨_, rfl⟩
      rw [← hs] at c HT C
      clear hs hrow hl2
      have i1 : (0 : Int) ≤ (k : Int) := by omega
      have i2 : (k : Int) < (l.length : Int) := by omega
      go_wp2_with (go_at_call 43; refine C.out.mono ?_; rintro e w' ⟨rfl, h1, h2⟩; have H1 := Lib.hid h1; have H2 := Lib.hid (HB.out.trans h2); clear h1 h2)
      go_roundw
      case rel => exact ⟨k + 1, by omega, by go_num, Lib.hid (.inr (by rw [HT.out, ← List.append_assoc]; exact H1.out)), H2⟩
      case measure => simp [intOf]; omega
    · obtain rfl : k = l.length := by omega
      rw [List.take_length] at HI
      go_wp2_with fail
      go_end0
      exact ⟨rfl, HI.out, HB.out⟩
end Go.Proofs.YtbekjfoefjnidaaDoor
