/- Names: a row of them in memory; what is wrong with them (plain). -/
import Derived.Test.YtbekjfoefjnidaaDoorFsAG
import Derived.Test.YtbekjfoefjnidaaDoorFsF
import Derived.Test.YtbekjfoefjnidaaDoorFsAH
namespace Go.Proofs.YtbekjfoefjnidaaDoor
open Go.RowKit
set_option linter.unusedVariables false
def nmVals (n : ByteArray × Int) : List Value := [.string n.1, .int .i64 n.2]
def nms (l : List (ByteArray × Int)) : List Value := l.flatMap nmVals
theorem nms_length (l : List (ByteArray × Int)) : (nms l).length = l.length * 2 := by
  induction l with
  | nil => rfl
  | cons n l ih => unfold nms at *; rw [List.flatMap_cons, List.length_append, ih, List.length_cons]; show 2 + _ = _; omega
theorem nms_get (l : List (ByteArray × Int)) (k : Nat) (h : k < l.length) : (nms l)[k * 2]? = some (.string l[k].1) ∧ (nms l)[k * 2 + 1]? = some (.int .i64 l[k].2) := by
  induction l generalizing k with
  | nil => simp at h
  | cons n l ih =>
    have e : nms (n :: l) = [Value.string n.1, .int .i64 n.2] ++ nms l := by unfold nms; rw [List.flatMap_cons]; rfl
    rw [e]
    cases k with
    | zero => exact ⟨rfl, rfl⟩
    | succ k =>
      have h2 := ih k (by simpa using h)
      rw [show (k + 1) * 2 = k * 2 + 2 from by omega, show k * 2 + 2 + 1 = k * 2 + 1 + 2 from by omega]
      exact ⟨h2.1, h2.2⟩
/-- a row of names, below block B -/
structure NamesAt (w : World) (B : Nat) (A : Option Addr) (n : Nat) (l : List (ByteArray × Int)) : Prop where
  row : Rds w B 2 A n (nms l)
  len : l.length = n
  txt : ∀ x ∈ l, x.1.size ≤ maxLen
  num : ∀ x ∈ l, (Lit.int .i64 x.2).wf = true
theorem NamesAt.at {w : World} {B n : Nat} {A : Option Addr} {l : List (ByteArray × Int)} (h : NamesAt w B A n l) {k : Nat} (hk : k < n) :
    ∃ b off, ∃ hl : k < l.length, A = some ⟨b, off, none⟩ ∧ b < B ∧ w.cell? ⟨b, off + k * 2, none⟩ = some (.string l[k].1) ∧ w.cell? ⟨b, off + k * 2 + 1, none⟩ = some (.int .i64 l[k].2) := by
  obtain ⟨b, off, e, hb, hc⟩ := h.row.2 (by omega)
  have hl : k < l.length := by rw [h.len]; exact hk
  obtain ⟨g1, g2⟩ := nms_get l k hl
  exact ⟨b, off, hl, e, hb, hc _ _ g1, by have := hc _ _ g2; rwa [show off + (k * 2 + 1) = off + k * 2 + 1 from by omega] at this⟩
theorem NamesAt.below {w w' : World} {B n C : Nat} {A : Option Addr} {l : List (ByteArray × Int)} (h : NamesAt w B A n l) (hb : Below C w w') (hC : B ≤ C) : NamesAt w' B A n l := ⟨h.row.below hb hC, h.len, h.txt, h.num⟩
theorem NamesAt.more {w : World} {B B' n : Nat} {A : Option Addr} {l : List (ByteArray × Int)} (h : NamesAt w B A n l) (hB : B ≤ B') : NamesAt w B' A n l := ⟨h.row.more hB, h.len, h.txt, h.num⟩
theorem NamesAt.next {w w' : World} {n : Nat} {A : Option Addr} {l : List (ByteArray × Int)} (h : NamesAt w w.heap.size A n l) (hb : Below w.heap.size w w') : NamesAt w' w'.heap.size A n l := (h.below hb (Nat.le_refl _)).more hb.size
/-- is a number beside the groups? -/
def numOut (gr : Int) (n : ByteArray × Int) : Bool := decide (n.2 < 1) || decide (gr < n.2)
def Twice (l : List (ByteArray × Int)) : Prop := ¬ ((l.map Prod.fst).Nodup ∧ (l.map Prod.snd).Nodup)
def Falls (l : List (ByteArray × Int)) : Prop := ∃ i, ∃ h : i + 1 < l.length, l[i + 1].2 < (l[i]'(by omega)).2
/-- what is wrong with names -/
noncomputable def namesE (gr : Int) (l : List (ByteArray × Int)) : Int :=
  if (l.any (numOut gr)) = true then 5 else if (l.any fun n => !isNm n.1) = true then 1 else @ite _ (Twice l) (Classical.propDecidable _) 6 (@ite _ (Falls l) (Classical.propDecidable _) 4 0)
theorem namesE_out {gr : Int} {l : List (ByteArray × Int)} (h : l.any (numOut gr) = true) : namesE gr l = 5 := by unfold namesE; rw [if_pos h]
theorem namesE_in {gr : Int} {l : List (ByteArray × Int)} (h : l.any (numOut gr) = false) : namesE gr l = if (l.any fun n => !isNm n.1) = true then 1 else @ite _ (Twice l) (Classical.propDecidable _) 6 (@ite _ (Falls l) (Classical.propDecidable _) 4 0) := by unfold namesE; rw [if_neg (by rw [h]; simp)]
/-- the keys of the two maps -/
def strKeys (l : List (ByteArray × Int)) : List Lit := l.map fun n => .string n.1.data.toList
def intKeys (l : List (ByteArray × Int)) : List Lit := l.map fun n => .int .i64 n.2
theorem map_nodup {α β : Type} (f : α → β) (hf : ∀ a b, f a = f b → a = b) (l : List α) : (l.map f).Nodup ↔ l.Nodup := by
  induction l with
  | nil => simp
  | cons a l ih =>
    rw [List.map_cons, List.nodup_cons, List.nodup_cons, ih]
    refine and_congr (not_congr ⟨fun h => ?_, fun h => List.mem_map_of_mem h⟩) Iff.rfl
    obtain ⟨b, hb, e⟩ := List.mem_map.1 h
    rw [← hf _ _ e]; exact hb
theorem strKeys_nodup (l : List (ByteArray × Int)) : (strKeys l).Nodup ↔ (l.map Prod.fst).Nodup := by
  have e : strKeys l = (l.map Prod.fst).map (fun s : ByteArray => Lit.string s.data.toList) := by unfold strKeys; rw [List.map_map]; rfl
  rw [e]
  exact map_nodup _ (fun a b h => Go.WideShapes.bytes_inj (by injection h)) _
theorem intKeys_nodup (l : List (ByteArray × Int)) : (intKeys l).Nodup ↔ (l.map Prod.snd).Nodup := by
  have e : intKeys l = (l.map Prod.snd).map (fun s : Int => Lit.int .i64 s) := by unfold intKeys; rw [List.map_map]; rfl
  rw [e]
  exact map_nodup _ (fun a b h => by injection h) _
theorem strKeys_key (l : List (ByteArray × Int)) : ∀ k ∈ strKeys l, KeyLit k := by
  intro k hk; obtain ⟨n, _, rfl⟩ := List.mem_map.1 hk; exact .inl ⟨_, rfl⟩
theorem intKeys_key (l : List (ByteArray × Int)) : ∀ k ∈ intKeys l, KeyLit k := by
  intro k hk; obtain ⟨n, _, rfl⟩ := List.mem_map.1 hk; exact .inr ⟨_, _, rfl⟩
/-- a name stands twice: just if one of the maps is the shorter one -/
theorem twice_iff {H : Type} (l : List (ByteArray × Int)) : Twice l ↔ (mapOf (H := H) (strKeys l)).length < l.length ∨ (mapOf (H := H) (intKeys l)).length < l.length := by
  obtain ⟨_, a2, a3⟩ := mapOf_law (H := H) (strKeys l) (strKeys_key l)
  obtain ⟨_, b2, b3⟩ := mapOf_law (H := H) (intKeys l) (intKeys_key l)
  have e1 : (strKeys l).length = l.length := List.length_map _
  have e2 : (intKeys l).length = l.length := List.length_map _
  rw [e1] at a2 a3
  rw [e2] at b2 b3
  unfold Twice
  rw [← strKeys_nodup, ← intKeys_nodup, ← a3, ← b3]
  omega
end Go.Proofs.YtbekjfoefjnidaaDoor
