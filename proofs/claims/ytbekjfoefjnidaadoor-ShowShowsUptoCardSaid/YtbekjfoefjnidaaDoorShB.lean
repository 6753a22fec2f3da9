/- String of a writer's Builder; the literal maps of show; what a leaf writes: walked. -/
import Derived.Test.YtbekjfoefjnidaaDoorShA
import Derived.Test.YtbekjfoefjnidaaDoorFsAK
import Derived.Maps.Own
import Derived.Maps.StringElems
namespace Go.Proofs.YtbekjfoefjnidaaDoor
open Go.RowKit Go.Maps
set_option linter.unusedVariables false
set_option maxHeartbeats 1000000 in
set_option maxRecDepth 100000 in
theorem string22 (b g : Nat) (l : List UInt8) (w : World) (h : IsWr b g (Lib.byteCells l) w) (h0 : l ≠ []) :
    Calls Tryd.prog 22 #[.pointer (some ⟨b, 0, none⟩)] w fun e w' => e = .returned (.string ⟨l.toArray⟩) ∧ Below b w w' := by
  obtain ⟨p, v, hbk, hown, hne⟩ : ∃ p, WrAt b g p (Lib.byteCells l) w := by
    rcases h with h | h
    · exact ⟨_, h⟩
    · exact ⟨_, h⟩
  have hl0 : l.length ≠ 0 := by simpa using h0
  rw [Lib.byteCells_length] at hown
  obtain ⟨gb, cap, cur, rfl, hbg, hg, hnc, hcm, hcs, htake⟩ : ∃ gb cap cur, v = .slice (some ⟨gb, 0, none⟩) l.length cap ∧ b ≤ gb ∧ w.heap[gb]? = some (.cells cur 5 (0, 0)) ∧ l.length ≤ cap ∧ cap ≤ maxLen ∧ cur.size = cap * 1 ∧ cur.toList.take (l.length * 1) = Lib.byteCells l := by
    rcases hown.2 with ⟨_, hz⟩ | ⟨g, cap, cur, hv, r⟩
    · exact absurd hz hl0
    · exact ⟨g, cap, cur, hv, r⟩
  have c1 : w.cell? ⟨b, 1, none⟩ = some (.slice (some ⟨gb, 0, none⟩) l.length cap) := by rw [Lib.cell_of_heap hbk]; rfl
  have hSD : (Builtin.unsafeSliceData_ #[54] 77 #[.slice (some ⟨gb, 0, none⟩) l.length cap]).run Tryd.prog w.drew = .ok (.pointer (some ⟨gb, 0, none⟩)) w.drew :=
    Lib.run_unsafeSliceData_row _ _ _ _ _ _ (by omega)
  have hUS : (Builtin.unsafeString_ #[77, 3] 9 #[.pointer (some ⟨gb, 0, none⟩), .int .i64 l.length]).run Tryd.prog w.drew = .ok (.string ⟨l.toArray⟩) (w.drew.freeze ⟨gb, 0, none⟩ l.length) := by
    refine Lib.run_unsafeString_row w.drew 77 3 9 5 Tryd.underlying77 (by kernel_rfl) gb cur.size (by have hg' : w.drew.heap[gb]? = some (.cells cur 5 (0, 0)) := hg; simp [World.shape?, hg']) l h0 (by omega) (by unfold maxLen at hcm; omega) ?_
    intro j x hx
    have := hown.cells (g := gb) rfl j (.int .u8 x.toNat) (by simp [Lib.byteCells, hx])
    exact this
  have HB := Lib.hid (Lib.below_freeze (Below.drew (Below.refl b w)) (p := ⟨gb, 0, none⟩) hbg l.length)
  clear hown hne hbk htake hcs hg h
  go_enter Tryd.func22, Tryd.ntmps22
  go_upto_region 1 with (fail)
  go_region
  all_goals (go_wp2; go_ret; exact ⟨rfl, HB.out⟩)
theorem IsWr.next {b g : Nat} {bs : List Value} {w w' : World} (h : IsWr b g bs w) (hb : Below w.heap.size w w') : IsWr b g bs w' := by
  have hk : ∀ p, WrAt b g p bs w → WrAt b g p bs w' := fun p h => by
    have hlt := h.lt
    obtain ⟨v, hbk, hown, hne⟩ := h
    exact ⟨v, by rw [hb.block b hlt]; exact hbk, own_below hown hb (Nat.le_refl _), hne⟩
  rcases h with h | h
  · exact .inl (hk _ h)
  · exact .inr (hk _ h)
theorem Wrote.of {b : Nat} {w w' : World} (hb : Below w.heap.size w w') (h : b ≤ w.heap.size) : Wrote b w w' := ⟨hb.mono h, fun k hk _ _ => hb.block k hk⟩
noncomputable abbrev ps {H : Type} : Value → Option (DataW H × List MemPlace) := plainElem Tryd.prog 9
theorem insS {w : World} {g n : Nat} {D : DataW Unit} (h : w.ownsMap (H := Unit) Tryd.prog 3 ps g n D) (hn : n < maxLen) (k : Int) (hk : (Lit.int .i64 k).wf = true) (s : ByteArray) (hs : s.size ≤ maxLen) :
    ∃ w', (Instr.mapUpdate 52 (.map (some g)) (.int .i64 k) (.string s)).run Tryd.prog w = .ok () w' ∧ w'.ownsMap (H := Unit) Tryd.prog 3 ps g (n + 1) (D.put (.int .i64 k) (.lit (.string s.data.toList))) ∧ w.grownBy w' (some g) :=
  h.update (int_keyed Tryd.underlying3) Tryd.underlying52 hn (keyOf_int_mk Tryd.underlying3 hk) (plainElem_string Tryd.underlying9 hs)
theorem ps_string {H : Type} {v : Value} {l : List UInt8} {p : List MemPlace} (h : ps (H := H) v = some (.lit (.string l), p)) : v = .string ⟨l.toArray⟩ := by
  obtain ⟨s, hs⟩ := plainElem_string_inv Tryd.underlying9 h
  have h1 := hs.1
  have h2 := congrArg Prod.fst hs.2.1
  simp only [DataW.lit.injEq, Lit.string.injEq] at h2
  rw [h1, h2]
theorem lookS {w : World} {g n : Nat} {D : DataW Unit} {l : List UInt8} (h : w.ownsMap (H := Unit) Tryd.prog 3 ps g n D) (k : Int) (hk : (Lit.int .i64 k).wf = true) (hD : D.atKey (.int .i64 k) (.lit (.string [])) = .lit (.string l)) :
    (Instr.lookup 52 (.map (some g)) (.int .i64 k) false).run Tryd.prog w = .ok (.string ⟨l.toArray⟩) w := by
  obtain ⟨v, p, hr, hv⟩ := h.lookup (int_keyed Tryd.underlying3) Tryd.underlying52 (Tryd.zeroValue9 w) (z := .string ⟨#[]⟩) (plainElem_string Tryd.underlying9 (s := ⟨#[]⟩) (by decide)) (keyOf_int_mk Tryd.underlying3 hk)
  rw [show (DataW.atKey D (.int .i64 k) (.lit (.string (⟨#[]⟩ : ByteArray).data.toList))) = .lit (.string l) from hD] at hv
  rw [hr, ps_string hv]
end Go.Proofs.YtbekjfoefjnidaaDoor
