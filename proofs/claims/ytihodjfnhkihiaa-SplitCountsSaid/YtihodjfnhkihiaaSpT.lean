/- The pairs of units of UTF-16, road by road: plain. No condition. -/
import Derived.Test.YtihodjfnhkihiaaSpS
namespace Go.Proofs.Ytihodjfnhkihiaa
set_option linter.unusedVariables false
set_option linter.unusedSimpArgs false
/-- the first i roads of xs, and behind each whatever T says -/
structure ZI (xs : List (List (Int × Int))) (i : Nat) (T : List Int → Prop) (m : Int) (z : List (List (Int × Int))) : Prop where
  cnt : ∀ ds, (T (ds.drop 2) → cntR z ds = cntR (xs.take i) (ds.take 2)) ∧ (¬ T (ds.drop 2) → cntR z ds = 0)
  shape : Shape 4 z
  size : sizeR z = sizeR (xs.take i) * m
theorem ZI.start (xs : List (List (Int × Int))) (T : List Int → Prop) (m : Int) : ZI xs 0 T m [] :=
  ⟨fun ds => ⟨fun _ => rfl, fun _ => rfl⟩, (fun r hr => by cases hr), by simp [sizeR]⟩
theorem ZI.step {xs ys z : List (List (Int × Int))} {i : Nat} {T : List Int → Prop} {m : Int} (h : ZI xs i T m z) (hx : Shape 2 xs) (hy : RC ys T 2 m) (hi : i < xs.length) : ZI xs (i + 1) T m (z ++ ys.map fun y => xs[i] ++ y) := by
  have h2 := (hx _ (List.getElem_mem hi)).1
  refine ⟨fun ds => ?_, h.shape.append fun r hr => ?_, ?_⟩
  · rw [cntR_append, cntR_pre, h2, take_snoc hi, cntR_append]
    have e : cntR [xs[i]] (ds.take 2) = if hitR xs[i] (ds.take 2) = true then 1 else 0 := by
      by_cases k : hitR xs[i] (ds.take 2) = true
      · rw [if_pos k]; simp [cntR, List.filter, k]
      · rw [if_neg k]; simp [cntR, List.filter, k]
    rw [e]
    refine ⟨fun t => ?_, fun t => ?_⟩
    · rw [(h.cnt ds).1 t, (hy.cov _).1 t]
    · rw [(h.cnt ds).2 t, (hy.cov _).2 t]; split <;> rfl
  · obtain ⟨y, hy', rfl⟩ := List.mem_map.1 hr
    obtain ⟨a, b⟩ := hx _ (List.getElem_mem hi)
    obtain ⟨c, d⟩ := hy.shape y hy'
    refine ⟨by rw [List.length_append]; omega, fun x hx' => ?_⟩
    rcases List.mem_append.1 hx' with k | k
    · exact b x k
    · exact d x k
  · rw [sizeR_append, sizeR_preL, h.size, hy.size, take_snoc hi, sizeR_append, Int.add_mul]
    simp [sizeR]
theorem ZI.done {xs z : List (List (Int × Int))} {i : Nat} {S T : List Int → Prop} {m k : Int} (h : ZI xs i T m z) (hx : RC xs S 2 k) (hi : xs.length ≤ i) : RC z (fun ds => S (ds.take 2) ∧ T (ds.drop 2)) 4 (k * m) := by
  have e : xs.take i = xs := List.take_of_length_le hi
  obtain ⟨h1, h2, h3⟩ := h
  rw [e] at h1 h3
  refine ⟨fun ds => ⟨fun ⟨s, t⟩ => ?_, fun hn => ?_⟩, h2, by rw [h3, hx.size]⟩
  · rw [(h1 ds).1 t, (hx.cov _).1 s]
  · by_cases t : T (ds.drop 2)
    · rw [(h1 ds).1 t, (hx.cov _).2 fun s => hn ⟨s, t⟩]
    · exact (h1 ds).2 t
theorem pairsZ {p last : Int} {z : List (List (Int × Int))} {h0 h1 l0 l1 : Int} (hp : 0 ≤ p) (hpl : p ≤ last)
    (hz : RC z (fun ds => ENum 256 0 0 1 (55296 + h0) (55296 + h1) (ds.take 2) ∧ ENum 256 0 0 1 (56320 + l0) (56320 + l1) (ds.drop 2)) 4 ((h1 - h0 + 1) * (l1 - l0 + 1)))
    (hl : 0 ≤ l0 ∧ l1 ≤ 1023) (hw : (h0 = p / 1024 ∧ h1 = last / 1024 ∧ l0 = 0 ∧ l1 = 1023 ∧ p % 1024 = 0 ∧ last % 1024 = 1023) ∨ (h0 = p / 1024 ∧ h1 = h0 ∧ p / 1024 = last / 1024 ∧ l0 = p % 1024 ∧ l1 = last % 1024)) :
    RS z code16 (fun c => 65536 + p ≤ c ∧ c ≤ 65536 + last) (last - p + 1) := by
  refine ⟨hz.cov.congr fun ds => ?_, fun r hr => ?_, ?_⟩
  · constructor
    · rintro ⟨⟨u, hu1, hu2, e1⟩, v, hv1, hv2, e2⟩
      refine ⟨65536 + (u - 55296) * 1024 + (v - 56320), ?_, ?_⟩
      · rcases hw with ⟨rfl, rfl, rfl, rfl, a, b⟩ | ⟨rfl, rfl, a, rfl, rfl⟩
        · omega
        · omega
      · unfold code16
        rw [if_neg (by rcases hw with ⟨rfl, rfl, rfl, rfl, a, b⟩ | ⟨rfl, rfl, a, rfl, rfl⟩ <;> omega)]
        rw [show 55296 + (65536 + (u - 55296) * 1024 + (v - 56320) - 65536) / 1024 = u by omega, show 56320 + (65536 + (u - 55296) * 1024 + (v - 56320) - 65536) % 1024 = v by omega]
        rw [← List.take_append_drop 2 ds, e1, e2]
        rfl
    · rintro ⟨c, ⟨h1', h2'⟩, rfl⟩
      unfold code16
      rw [if_neg (by omega)]
      obtain ⟨t1, t2⟩ := enc16_take (55296 + (c - 65536) / 1024) (56320 + (c - 65536) % 1024)
      rw [t1, t2]
      refine ⟨⟨_, ?_, ?_, rfl⟩, _, ?_, ?_, rfl⟩
      all_goals (rcases hw with ⟨rfl, rfl, rfl, rfl, a, b⟩ | ⟨rfl, rfl, a, rfl, rfl⟩ <;> omega)
  · obtain ⟨e, h⟩ := hz.shape r hr
    exact ⟨by omega, h⟩
  · rw [hz.size]
    rcases hw with ⟨rfl, rfl, rfl, rfl, a, b⟩ | ⟨rfl, rfl, a, rfl, rfl⟩
    · omega
    · rw [show p / 1024 - p / 1024 + 1 = (1 : Int) by omega, Int.one_mul]; omega
/-- a piece of a range, and the next one -/
theorem RS.next {ls ms : List (List (Int × Int))} {little : Bool} {x p last : Int} (h : RS ls (codeT little) (fun c => x ≤ c ∧ c < 65536 + p) (65536 + p - x)) (g : RS ms (codeT little) (fun c => 65536 + p ≤ c ∧ c ≤ 65536 + last) (last - p + 1)) (h0 : x ≤ 65536 + p) (h1 : p ≤ last) :
    RS (ls ++ ms) (codeT little) (fun c => x ≤ c ∧ c < 65536 + (last + 1)) (65536 + (last + 1) - x) :=
  (h.union (codeT_inj little) g fun c a b => by omega).congr (fun c => by omega) (by omega)
theorem RS.first (little : Bool) (x p : Int) (h : x = 65536 + p) : RS [] (codeT little) (fun c => x ≤ c ∧ c < 65536 + p) (65536 + p - x) :=
  (RS.nil _).congr (fun c => ⟨fun h => h.elim, fun h => by omega⟩) (by omega)
end Go.Proofs.Ytihodjfnhkihiaa
