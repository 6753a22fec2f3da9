/-
  The plain law of RawMeet.
-/
import Derived.Test.YtihodjfnhkihiaaSplW
import Derived.Test.YtihodjfnhkihiaaSetJ
namespace Go.Proofs.Ytihodjfnhkihiaa
open Go.RowKit
set_option linter.unusedVariables false
theorem mem_take_lt {a : List (Int × Int)} (hc : Can a) {i : Nat} (hi : i < a.length) {p : Int} (h : mem (a.take i) p) : p + 2 ≤ (a[i]).1 := by
  obtain ⟨s, hs, h1, h2⟩ := h
  obtain ⟨j, hj, rfl⟩ := List.mem_iff_getElem.1 hs
  rw [List.getElem_take] at h1 h2
  rw [List.length_take] at hj
  have := List.pairwise_iff_getElem.1 hc.2 j i (by omega) hi (by omega)
  omega
theorem mem_of_take {a : List (Int × Int)} {i : Nat} {p : Int} (h : mem (a.take i) p) : mem a p := by
  obtain ⟨s, hs, h1⟩ := h; exact ⟨s, List.mem_of_mem_take hs, h1⟩
theorem mem_split {a : List (Int × Int)} (hc : Can a) {i : Nat} (hi : i < a.length) {p : Int} (h : mem a p) : mem (a.take i) p ∨ ((a[i]).1 ≤ p ∧ p ≤ (a[i]).2) ∨ (a[i]).2 + 2 ≤ p := by
  obtain ⟨s, hs, h1, h2⟩ := h
  obtain ⟨j, hj, rfl⟩ := List.mem_iff_getElem.1 hs
  rcases Nat.lt_trichotomy j i with k | k | k
  · exact .inl ⟨a[j], List.mem_iff_getElem.2 ⟨j, by rw [List.length_take]; omega, by rw [List.getElem_take]⟩, h1, h2⟩
  · subst k; exact .inr (.inl ⟨h1, h2⟩)
  · have := List.pairwise_iff_getElem.1 hc.2 i j hi hj k
    exact .inr (.inr (by omega))
theorem mem_take_succ {a : List (Int × Int)} {i : Nat} (hi : i < a.length) (p : Int) : mem (a.take (i + 1)) p ↔ mem (a.take i) p ∨ ((a[i]).1 ≤ p ∧ p ≤ (a[i]).2) := by
  rw [take_snoc' a i hi, mem_append, mem_cons]
  have := mem_nil p
  simp only [this, or_false]
theorem mem_getElem {a : List (Int × Int)} {i : Nat} (hi : i < a.length) {p : Int} (h : (a[i]).1 ≤ p ∧ p ≤ (a[i]).2) : mem a p := ⟨a[i], List.getElem_mem hi, h.1, h.2⟩
def MeetInv (a b : List (Int × Int)) (i k : Nat) (out : List (Int × Int)) : Prop := IsSet out fun p => (mem (a.take i) p ∨ mem (b.take k) p) ∧ mem a p ∧ mem b p
theorem MeetInv.start (a b : List (Int × Int)) : MeetInv a b 0 0 [] := ⟨Can.nil, fun p => ⟨fun h => absurd h (mem_nil p), fun h => by rcases h.1 with k | k <;> exact absurd k (mem_nil p)⟩⟩
theorem MeetInv.fin {a b : List (Int × Int)} {i k : Nat} {out : List (Int × Int)} (h : MeetInv a b i k out) (hik : a.length ≤ i ∨ b.length ≤ k) : IsSet out fun p => mem a p ∧ mem b p :=
  ⟨h.1, fun p => by
    refine (h.2 p).trans ⟨fun h => h.2, fun hh => ⟨?_, hh⟩⟩
    rcases hik with e | e
    · exact .inl (by rw [List.take_of_length_le e]; exact hh.1)
    · exact .inr (by rw [List.take_of_length_le e]; exact hh.2)⟩
theorem meet_put {a b : List (Int × Int)} (ha : Can a) (hb : Can b) {i k : Nat} (hi : i < a.length) (hk : k < b.length) {out : List (Int × Int)} (h : MeetInv a b i k out) (F : Int → Prop)
    (hF : ∀ p, F p ↔ ((mem (a.take i) p ∨ mem (b.take k) p) ∧ mem a p ∧ mem b p) ∨ (((a[i]).1 ≤ p ∧ p ≤ (a[i]).2) ∧ ((b[k]).1 ≤ p ∧ p ≤ (b[k]).2))) :
    IsSet (if max (a[i]).1 (b[k]).1 ≤ min (a[i]).2 (b[k]).2 then out ++ [(max (a[i]).1 (b[k]).1, min (a[i]).2 (b[k]).2)] else out) F := by
  have ra := (okR_iff _).1 (ha.1 _ (List.getElem_mem hi))
  have rb := (okR_iff _).1 (hb.1 _ (List.getElem_mem hk))
  by_cases hr : max (a[i]).1 (b[k]).1 ≤ min (a[i]).2 (b[k]).2
  · rw [if_pos hr]
    refine ⟨h.1.snoc (by rw [okR_iff]; simp only; omega) fun s hs => ?_, fun p => ?_⟩
    · have rs := (okR_iff s).1 (h.1.1 s hs)
      have hm := ((h.2 s.2).1 ⟨s, hs, by omega, Int.le_refl _⟩).1
      simp only
      rcases hm with k1 | k1
      · have := mem_take_lt ha hi k1; omega
      · have := mem_take_lt hb hk k1; omega
    · rw [hF, mem_append, mem_cons, h.2 p]
      have := mem_nil p
      simp only [this, or_false]
      refine or_congr Iff.rfl ?_
      omega
  · rw [if_neg hr]
    refine ⟨h.1, fun p => ?_⟩
    rw [hF, h.2 p]
    constructor
    · exact .inl
    · rintro (k1 | k1)
      · exact k1
      · exact absurd (by omega) hr
theorem MeetInv.left {a b : List (Int × Int)} (ha : Can a) (hb : Can b) {i k : Nat} (hi : i < a.length) (hk : k < b.length) {out : List (Int × Int)} (h : MeetInv a b i k out) (hlt : (a[i]).2 < (b[k]).2) :
    MeetInv a b (i + 1) k (if max (a[i]).1 (b[k]).1 ≤ min (a[i]).2 (b[k]).2 then out ++ [(max (a[i]).1 (b[k]).1, min (a[i]).2 (b[k]).2)] else out) := by
  refine meet_put ha hb hi hk h _ fun p => ?_
  rw [mem_take_succ hi]
  constructor
  · rintro ⟨(k1 | k1) | k1, h1, h2⟩
    · exact .inl ⟨.inl k1, h1, h2⟩
    · rcases mem_split hb hk h2 with k2 | k2 | k2
      · exact .inl ⟨.inr k2, h1, h2⟩
      · exact .inr ⟨k1, k2⟩
      · omega
    · exact .inl ⟨.inr k1, h1, h2⟩
  · rintro (⟨k1 | k1, h1, h2⟩ | ⟨k1, k2⟩)
    · exact ⟨.inl (.inl k1), h1, h2⟩
    · exact ⟨.inr k1, h1, h2⟩
    · exact ⟨.inl (.inr k1), mem_getElem hi k1, mem_getElem hk k2⟩
theorem MeetInv.right {a b : List (Int × Int)} (ha : Can a) (hb : Can b) {i k : Nat} (hi : i < a.length) (hk : k < b.length) {out : List (Int × Int)} (h : MeetInv a b i k out) (hlt : ¬ (a[i]).2 < (b[k]).2) :
    MeetInv a b i (k + 1) (if max (a[i]).1 (b[k]).1 ≤ min (a[i]).2 (b[k]).2 then out ++ [(max (a[i]).1 (b[k]).1, min (a[i]).2 (b[k]).2)] else out) := by
  refine meet_put ha hb hi hk h _ fun p => ?_
  rw [mem_take_succ hk]
  constructor
  · rintro ⟨k1 | k1 | k1, h1, h2⟩
    · exact .inl ⟨.inl k1, h1, h2⟩
    · exact .inl ⟨.inr k1, h1, h2⟩
    · rcases mem_split ha hi h1 with k2 | k2 | k2
      · exact .inl ⟨.inl k2, h1, h2⟩
      · exact .inr ⟨k2, k1⟩
      · omega
  · rintro (⟨k1 | k1, h1, h2⟩ | ⟨k1, k2⟩)
    · exact ⟨.inl k1, h1, h2⟩
    · exact ⟨.inr (.inl k1), h1, h2⟩
    · exact ⟨.inr (.inr k2), mem_getElem hi k1, mem_getElem hk k2⟩
end Go.Proofs.Ytihodjfnhkihiaa
