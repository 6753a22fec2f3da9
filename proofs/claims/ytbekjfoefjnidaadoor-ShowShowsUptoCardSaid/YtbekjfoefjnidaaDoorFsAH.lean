import Derived.Maps.Own

namespace Go.Proofs.YtbekjfoefjnidaaDoor
open Go.RowKit
set_option linter.unusedVariables false
/-- a key by which maps are kept here: a text, or a number -/
def KeyLit (k : Lit) : Prop := (∃ s, k = .string s) ∨ ∃ q a, k = .int q a
theorem sameKey_iff {a b : Lit} (ha : KeyLit a) (hb : KeyLit b) : a.sameKey b = true ↔ a = b := by
  rcases ha with ⟨s, rfl⟩ | ⟨q, x, rfl⟩ <;> rcases hb with ⟨s', rfl⟩ | ⟨q', x', rfl⟩ <;> simp [Lit.sameKey]
/-- the entries of a set kept as a map, its keys put in one by one -/
def mapOf {H : Type} (ks : List Lit) : List (Lit × DataW H) := ks.foldl (fun m k => ChangeMaps.putKey k (.lit (.bool true)) m) []
theorem mapOf_snoc {H : Type} (ks : List Lit) (k : Lit) : mapOf (H := H) (ks ++ [k]) = ChangeMaps.putKey k (.lit (.bool true)) (mapOf ks) := by unfold mapOf; rw [List.foldl_append]; rfl
theorem put_mapOf {H : Type} (ks : List Lit) (k : Lit) : (DataW.map (mapOf (H := H) ks)).put k (.lit (.bool true)) = .map (mapOf (ks ++ [k])) := by rw [DataW.put_eq, mapOf_snoc]
theorem mem_snoc_induct {P : List Lit → Prop} (h0 : P []) (h1 : ∀ ks k, P ks → P (ks ++ [k])) : ∀ ks, P ks := by
  intro ks
  rw [← List.reverse_reverse ks]
  induction ks.reverse with
  | nil => exact h0
  | cons k r ih => rw [List.reverse_cons]; exact h1 _ _ ih
theorem mapOf_law {H : Type} (ks : List Lit) (hk : ∀ k ∈ ks, KeyLit k) : (∀ k, k ∈ (mapOf (H := H) ks).map Prod.fst ↔ k ∈ ks) ∧ (mapOf (H := H) ks).length ≤ ks.length ∧ ((mapOf (H := H) ks).length = ks.length ↔ ks.Nodup) := by
  revert hk
  refine mem_snoc_induct (P := fun ks => (∀ k ∈ ks, KeyLit k) → (∀ k, k ∈ (mapOf (H := H) ks).map Prod.fst ↔ k ∈ ks) ∧ (mapOf (H := H) ks).length ≤ ks.length ∧ ((mapOf (H := H) ks).length = ks.length ↔ ks.Nodup)) ?_ ?_ ks
  · intro _; simp [mapOf]
  · intro ks x ih hk
    obtain ⟨h1, h2, h3⟩ := ih (fun k h => hk k (List.mem_append_left _ h))
    have hx := hk x (by simp)
    have hkl : ∀ p ∈ mapOf (H := H) ks, KeyLit p.1 := fun p hp => hk p.1 (List.mem_append_left _ ((h1 p.1).1 (List.mem_map_of_mem hp)))
    have hf : ∀ p ∈ mapOf (H := H) ks, (ChangeMaps.notKey x p = true ↔ p.1 ≠ x) := fun p hp => by
      unfold ChangeMaps.notKey
      rw [Bool.not_eq_true', ← Bool.not_eq_true, sameKey_iff (hkl p hp) hx]
    rw [mapOf_snoc]
    unfold ChangeMaps.putKey
    have hperm := Go.WideShapes.insert_perm (x, DataW.lit (.bool true)) ((mapOf (H := H) ks).filter (ChangeMaps.notKey x))
    refine ⟨fun k => ?_, ?_⟩
    · rw [(hperm.map Prod.fst).mem_iff]
      simp only [List.map_cons, List.mem_cons, List.mem_append, List.mem_map, List.mem_filter]
      constructor
      · rintro (h | ⟨p, ⟨hp, _⟩, rfl⟩)
        · right; simpa using h
        · left; exact (h1 _).1 (List.mem_map_of_mem hp)
      · rintro (h | h)
        · by_cases hkx : k = x
          · left; exact hkx
          · right
            obtain ⟨p, hp, rfl⟩ := List.mem_map.1 ((h1 k).2 h)
            exact ⟨p, ⟨hp, (hf p hp).2 hkx⟩, rfl⟩
        · left; simpa using h
    · rw [hperm.length_eq]
      simp only [List.length_cons, List.length_append, List.length_nil, Nat.zero_add]
      rw [List.nodup_append]
      by_cases hin : x ∈ ks
      · obtain ⟨p, hp, hpx⟩ := List.mem_map.1 ((h1 x).2 hin)
        have hlt : ((mapOf (H := H) ks).filter (ChangeMaps.notKey x)).length < (mapOf (H := H) ks).length := by
          rcases Nat.lt_or_ge ((mapOf (H := H) ks).filter (ChangeMaps.notKey x)).length (mapOf (H := H) ks).length with h | h
          · exact h
          · have := List.length_filter_eq_length_iff.1 (Nat.le_antisymm (List.length_filter_le _ _) h) p hp
            exact absurd hpx ((hf p hp).1 this)
        refine ⟨by omega, ⟨fun h => by omega, fun h => absurd rfl (h.2.2 x hin x (by simp))⟩⟩
      · have hall : (mapOf (H := H) ks).filter (ChangeMaps.notKey x) = mapOf ks := List.filter_eq_self.2 (fun p hp => by
          have : p.1 ≠ x := fun e => hin ((h1 x).1 (e ▸ List.mem_map_of_mem hp))
          exact (hf p hp).2 this)
        rw [hall]
        refine ⟨by omega, ⟨fun h => ⟨h3.1 (by omega), by simp, fun a ha b hb e => hin (by simp at hb; rw [← hb, ← e]; exact ha)⟩, fun h => by rw [h3.2 h.1]⟩⟩
/-- how many entries a map has that reads so -/
theorem ownsMap_len {H : Type} {w : World} {P : Program} {k : TypeId} {R : Value → Option (DataW H × List MemPlace)} {b n : Nat} {l : List (Lit × DataW H)} (h : w.ownsMap P k R b n (.map l)) : ∃ es clock, w.heap[b]? = some (.map es clock) ∧ es.size = l.length := by
  obtain ⟨es, clock, hb, F, hs, hD⟩ := h
  refine ⟨es, clock, hb, ?_⟩
  cases hD
  rw [DataW.length_sorted]; simp
end Go.Proofs.YtbekjfoefjnidaaDoor
