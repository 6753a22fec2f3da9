/-
  How many points a set has; roads of the ranges of a set, one behind the other: plain. The parts of UTF-16; its bytes, one way or the other: plain. The pairs of units of UTF-16, road by road: plain. No condition. What Roads answers: roads of the scalars of a set, in their order: plain. No condition.
-/
import Derived.Test.YtpdcbddofekbcaaGreatGB
import Derived.Test.YtpdcbddofekbcaaGreatGD
import Derived.Test.YtpdcbddofekbcaaGreatSetA
namespace Go.Proofs.YtpdcbddofekbcaaGreat
set_option linter.unusedVariables false
theorem take_snoc {α : Type} {l : List α} {k : Nat} (h : k < l.length) : l.take (k + 1) = l.take k ++ [l[k]] := List.take_succ_eq_append_getElem h
theorem mem_app (a b : List (Int × Int)) (p : Int) : mem (a ++ b) p ↔ mem a p ∨ mem b p := by
  simp only [mem, List.mem_append]
  constructor
  · rintro ⟨r, h | h, k⟩
    · exact .inl ⟨r, h, k⟩
    · exact .inr ⟨r, h, k⟩
  · rintro (⟨r, h, k⟩ | ⟨r, h, k⟩)
    · exact ⟨r, .inl h, k⟩
    · exact ⟨r, .inr h, k⟩
theorem mem_one (r : Int × Int) (p : Int) : mem [r] p ↔ r.1 ≤ p ∧ p ≤ r.2 := by simp [mem]
theorem Can.take_apart {out : List (Int × Int)} (hc : Can out) {k : Nat} (hk : k < out.length) {p : Int} (h1 : mem (out.take k) p) (h2 : out[k].1 ≤ p) : False := by
  obtain ⟨r, hr, _, hp⟩ := h1
  obtain ⟨j, hj, rfl⟩ := List.mem_take_iff_getElem.1 hr
  have := List.pairwise_iff_getElem.1 hc.2 j k (by omega) hk (by omega)
  omega
theorem RS.range {ls ms : List (List (Int × Int))} {code : Int → List Int} {P : Int → Prop} {m : Int} {out : List (Int × Int)} {k : Nat} (hi : ∀ p q, code p = code q → p = q) (hc : Can out) (hk : k < out.length)
    (h : RS ls code (fun p => P p ∨ mem (out.take k) p) (m + countL (out.take k))) (g : RS ms code (fun p => out[k].1 ≤ p ∧ p ≤ out[k].2) (out[k].2 - out[k].1 + 1)) (hd : ∀ p, P p → mem out p → False) :
    RS (ls ++ ms) code (fun p => P p ∨ mem (out.take (k + 1)) p) (m + countL (out.take (k + 1))) := by
  refine (h.union hi g fun p hp ⟨q1, q2⟩ => ?_).congr (fun p => ?_) ?_
  · rcases hp with hp | hp
    · exact hd p hp ⟨out[k], List.getElem_mem hk, q1, q2⟩
    · exact hc.take_apart hk hp q1
  · rw [take_snoc hk, mem_app, mem_one, or_assoc]
  · rw [take_snoc hk, countL_snoc]; omega
/-! ### the parts of UTF-8 -/
def loU (i : Nat) : Int := if i = 0 then 0 else if i = 1 then 128 else if i = 2 then 2048 else if i = 3 then 57344 else 65536
def hiU (i : Nat) : Int := if i = 0 then 127 else if i = 1 then 2047 else if i = 2 then 55295 else if i = 3 then 65535 else 1114111
def nbU (i : Nat) : Int := if i = 0 then 1 else if i = 1 then 2 else if i = 2 then 3 else if i = 3 then 3 else 4
theorem loU_hiU (i : Nat) : 0 ≤ loU i ∧ loU i ≤ hiU i ∧ hiU i ≤ 1114111 := by
  unfold loU hiU
  repeat' split
  all_goals omega
def ptsU (a : List (Int × Int)) (i : Nat) (p : Int) : Prop := ∃ j, j < i ∧ mem a p ∧ loU j ≤ p ∧ p ≤ hiU j
def ptsB (a : List (Int × Int)) (i : Nat) (p : Int) : Bool := (List.range i).any fun j => memB a p && decide (loU j ≤ p) && decide (p ≤ hiU j)
theorem ptsB_iff (a : List (Int × Int)) (i : Nat) (p : Int) : ptsB a i p = true ↔ ptsU a i p := by
  simp [ptsB, ptsU, memB_iff, and_assoc]
theorem ptsU_succ (a : List (Int × Int)) (i : Nat) (p : Int) : ptsU a (i + 1) p ↔ ptsU a i p ∨ (mem a p ∧ loU i ≤ p ∧ p ≤ hiU i) := by
  unfold ptsU
  constructor
  · rintro ⟨j, hj, h⟩
    by_cases e : j = i
    · subst e; exact .inr h
    · exact .inl ⟨j, by omega, h⟩
  · rintro (⟨j, hj, h⟩ | h)
    · exact ⟨j, by omega, h⟩
    · exact ⟨i, by omega, h⟩
theorem hiU_lt {i j : Nat} (h : j < i) (hi : i < 5) : hiU j < loU i := by
  have : i = 0 ∨ i = 1 ∨ i = 2 ∨ i = 3 ∨ i = 4 := by omega
  have hj : j = 0 ∨ j = 1 ∨ j = 2 ∨ j = 3 := by omega
  unfold hiU loU
  rcases this with rfl | rfl | rfl | rfl | rfl <;> rcases hj with rfl | rfl | rfl | rfl <;> first | omega | decide
theorem ptsU_apart {a : List (Int × Int)} {i : Nat} (hi : i < 5) {p : Int} (h : ptsU a i p) (k : loU i ≤ p) : False := by
  obtain ⟨j, hj, _, _, h2⟩ := h
  have := hiU_lt hj hi
  omega
theorem RS.partU {ls : List (List (Int × Int))} {code : Int → List Int} {a out : List (Int × Int)} {i : Nat} (hi : i < 5) (ho : IsSet out fun p => mem a p ∧ loU i ≤ p ∧ p ≤ hiU i) {m : Int} (hm : m = cntB (ptsB a i) 1114112)
    (h : RS ls code (fun p => ptsU a i p ∨ mem out p) (m + countL out)) : RS ls code (ptsU a (i + 1)) (cntB (ptsB a (i + 1)) 1114112) := by
  refine h.congr (fun p => by rw [ptsU_succ, ho.2 p]) ?_
  rw [countL_cnt ho.1, hm]
  have e1 := cntB_or (f := ptsB a i) (g := memB out) 1114112
  have e2 : cntB (fun p => ptsB a i p && memB out p) 1114112 = 0 := by
    rw [cntB_congr (g := fun _ => false), cntB_false]
    intro p h0 h1
    cases h1 : ptsB a i p
    · rfl
    · cases h2 : memB out p
      · rfl
      · exact (ptsU_apart hi ((ptsB_iff a i p).1 h1) ((ho.2 p).1 ((memB_iff out p).1 h2)).2.1).elim
  have e3 : cntB (ptsB a (i + 1)) 1114112 = cntB (fun p => ptsB a i p || memB out p) 1114112 := cntB_congr _ fun p _ _ => by
    rw [Bool.eq_iff_iff, ptsB_iff, ptsU_succ, Bool.or_eq_true, ptsB_iff, memB_iff, ho.2 p]
  rw [e3]
  omega
end Go.Proofs.YtpdcbddofekbcaaGreat
namespace Go.Proofs.YtpdcbddofekbcaaGreat
set_option linter.unusedVariables false
def loV (i : Nat) : Int := if i = 0 then 0 else if i = 1 then 57344 else 65536
def hiV (i : Nat) : Int := if i = 0 then 55295 else if i = 1 then 65535 else 1114111
theorem loV_hiV (i : Nat) : 0 ≤ loV i ∧ loV i ≤ hiV i ∧ hiV i ≤ 1114111 := by
  unfold loV hiV
  repeat' split
  all_goals omega
def ptsV (a : List (Int × Int)) (i : Nat) (p : Int) : Prop := ∃ j, j < i ∧ mem a p ∧ loV j ≤ p ∧ p ≤ hiV j
def ptsC (a : List (Int × Int)) (i : Nat) (p : Int) : Bool := (List.range i).any fun j => memB a p && decide (loV j ≤ p) && decide (p ≤ hiV j)
theorem ptsC_iff (a : List (Int × Int)) (i : Nat) (p : Int) : ptsC a i p = true ↔ ptsV a i p := by
  simp [ptsC, ptsV, memB_iff, and_assoc]
theorem ptsV_succ (a : List (Int × Int)) (i : Nat) (p : Int) : ptsV a (i + 1) p ↔ ptsV a i p ∨ (mem a p ∧ loV i ≤ p ∧ p ≤ hiV i) := by
  unfold ptsV
  constructor
  · rintro ⟨j, hj, h⟩
    by_cases e : j = i
    · subst e; exact .inr h
    · exact .inl ⟨j, by omega, h⟩
  · rintro (⟨j, hj, h⟩ | h)
    · exact ⟨j, by omega, h⟩
    · exact ⟨i, by omega, h⟩
theorem hiV_lt {i j : Nat} (h : j < i) (hi : i < 3) : hiV j < loV i := by
  have : i = 0 ∨ i = 1 ∨ i = 2 := by omega
  have hj : j = 0 ∨ j = 1 := by omega
  unfold hiV loV
  rcases this with rfl | rfl | rfl <;> rcases hj with rfl | rfl <;> first | omega | decide
theorem ptsV_apart {a : List (Int × Int)} {i : Nat} (hi : i < 3) {p : Int} (h : ptsV a i p) (k : loV i ≤ p) : False := by
  obtain ⟨j, hj, _, _, h2⟩ := h
  have := hiV_lt hj hi
  omega
theorem RS.partV {ls : List (List (Int × Int))} {code : Int → List Int} {a out : List (Int × Int)} {i : Nat} (hi : i < 3) (ho : IsSet out fun p => mem a p ∧ loV i ≤ p ∧ p ≤ hiV i) {m : Int} (hm : m = cntB (ptsC a i) 1114112)
    (h : RS ls code (fun p => ptsV a i p ∨ mem out p) (m + countL out)) : RS ls code (ptsV a (i + 1)) (cntB (ptsC a (i + 1)) 1114112) := by
  refine h.congr (fun p => by rw [ptsV_succ, ho.2 p]) ?_
  rw [countL_cnt ho.1, hm]
  have e1 := cntB_or (f := ptsC a i) (g := memB out) 1114112
  have e2 : cntB (fun p => ptsC a i p && memB out p) 1114112 = 0 := by
    rw [cntB_congr (g := fun _ => false), cntB_false]
    intro p h0 h1
    cases h1 : ptsC a i p
    · rfl
    · cases h2 : memB out p
      · rfl
      · exact (ptsV_apart hi ((ptsC_iff a i p).1 h1) ((ho.2 p).1 ((memB_iff out p).1 h2)).2.1).elim
  have e3 : cntB (ptsC a (i + 1)) 1114112 = cntB (fun p => ptsC a i p || memB out p) 1114112 := cntB_congr _ fun p _ _ => by
    rw [Bool.eq_iff_iff, ptsC_iff, ptsV_succ, Bool.or_eq_true, ptsC_iff, memB_iff, ho.2 p]
  rw [e3]
  omega
/-- the bytes of UTF-16, turned or not -/
def codeT (little : Bool) (p : Int) : List Int := if little = true then turnL (code16 p) else code16 p
theorem codeT_inj (little : Bool) : ∀ p q, codeT little p = codeT little q → p = q := by
  intro p q h
  unfold codeT at h
  cases little
  · exact code16_inj h
  · exact code16_inj (turnL_inj h)
theorem RS.startV (little : Bool) (a : List (Int × Int)) : RS [] (codeT little) (ptsV a 0) (cntB (ptsC a 0) 1114112) :=
  (RS.nil _).congr (fun p => ⟨fun h => h.elim, fun ⟨j, hj, _⟩ => by omega⟩) (by rw [show ptsC a 0 = fun _ => false from rfl, cntB_false]; rfl)
theorem RS.turnT {ls : List (List (Int × Int))} {P : Int → Prop} {m : Int} (h : RS ls code16 P m) (little : Bool) : RS (ls.map fun r => if little = true then turnL r else r) (codeT little) P m := by
  cases little
  · have e : (ls.map fun r => if false = true then turnL r else r) = ls := by simp
    rw [e]
    exact h
  · exact h.turn
end Go.Proofs.YtpdcbddofekbcaaGreat
namespace Go.Proofs.YtpdcbddofekbcaaGreat
set_option linter.unusedVariables false
set_option linter.unusedSimpArgs false
/-- the first i roads of xs, and behind each whatever T says -/
structure ZI (xs : List (List (Int × Int))) (i : Nat) (T : List Int → Prop) (m : Int) (z : List (List (Int × Int))) : Prop where
  cnt : ∀ ds, (T (ds.drop 2) → cntR z ds = cntR (xs.take i) (ds.take 2)) ∧ (¬ T (ds.drop 2) → cntR z ds = 0)
  shape : Shape 4 z
  size : sizeR z = sizeR (xs.take i) * m
theorem ZI.start (xs : List (List (Int × Int))) (T : List Int → Prop) (m : Int) : ZI xs 0 T m [] :=
  ⟨fun ds => ⟨fun _ => rfl, fun _ => rfl⟩, (fun r hr => by cases hr), by simp [sizeR]⟩
theorem ZI.step {xs ys z : List (List (Int × Int))} {i : Nat} {T : List Int → Prop} {m : Int} (h : ZI xs i T m z) (hx : Shape 2 xs) (hy : RC ys T 2 m) (hi : i < xs.length) : ZI xs (i + 1) T m (z ++ ys.map fun y => xs[i] ++ y) := by
  have h2 := (hx _ (List.getElem_mem hi)).1
  refine ⟨fun ds => ?_, h.shape.append fun r hr => ?_, ?_⟩
  · rw [cntR_append, cntR_pre, h2, take_snoc hi, cntR_append]
    have e : cntR [xs[i]] (ds.take 2) = if hitR xs[i] (ds.take 2) = true then 1 else 0 := by
      by_cases k : hitR xs[i] (ds.take 2) = true
      · rw [if_pos k]; simp [cntR, List.filter, k]
      · rw [if_neg k]; simp [cntR, List.filter, k]
    rw [e]
    refine ⟨fun t => ?_, fun t => ?_⟩
    · rw [(h.cnt ds).1 t, (hy.cov _).1 t]
    · rw [(h.cnt ds).2 t, (hy.cov _).2 t]; split <;> rfl
  · obtain ⟨y, hy', rfl⟩ := List.mem_map.1 hr
    obtain ⟨a, b⟩ := hx _ (List.getElem_mem hi)
    obtain ⟨c, d⟩ := hy.shape y hy'
    refine ⟨by rw [List.length_append]; omega, fun x hx' => ?_⟩
    rcases List.mem_append.1 hx' with k | k
    · exact b x k
    · exact d x k
  · rw [sizeR_append, sizeR_preL, h.size, hy.size, take_snoc hi, sizeR_append, Int.add_mul]
    simp [sizeR]
theorem ZI.done {xs z : List (List (Int × Int))} {i : Nat} {S T : List Int → Prop} {m k : Int} (h : ZI xs i T m z) (hx : RC xs S 2 k) (hi : xs.length ≤ i) : RC z (fun ds => S (ds.take 2) ∧ T (ds.drop 2)) 4 (k * m) := by
  have e : xs.take i = xs := List.take_of_length_le hi
  obtain ⟨h1, h2, h3⟩ := h
  rw [e] at h1 h3
  refine ⟨fun ds => ⟨fun ⟨s, t⟩ => ?_, fun hn => ?_⟩, h2, by rw [h3, hx.size]⟩
  · rw [(h1 ds).1 t, (hx.cov _).1 s]
  · by_cases t : T (ds.drop 2)
    · rw [(h1 ds).1 t, (hx.cov _).2 fun s => hn ⟨s, t⟩]
    · exact (h1 ds).2 t
theorem pairsZ {p last : Int} {z : List (List (Int × Int))} {h0 h1 l0 l1 : Int} (hp : 0 ≤ p) (hpl : p ≤ last)
    (hz : RC z (fun ds => ENum 256 0 0 1 (55296 + h0) (55296 + h1) (ds.take 2) ∧ ENum 256 0 0 1 (56320 + l0) (56320 + l1) (ds.drop 2)) 4 ((h1 - h0 + 1) * (l1 - l0 + 1)))
    (hl : 0 ≤ l0 ∧ l1 ≤ 1023) (hw : (h0 = p / 1024 ∧ h1 = last / 1024 ∧ l0 = 0 ∧ l1 = 1023 ∧ p % 1024 = 0 ∧ last % 1024 = 1023) ∨ (h0 = p / 1024 ∧ h1 = h0 ∧ p / 1024 = last / 1024 ∧ l0 = p % 1024 ∧ l1 = last % 1024)) :
    RS z code16 (fun c => 65536 + p ≤ c ∧ c ≤ 65536 + last) (last - p + 1) := by
  refine ⟨hz.cov.congr fun ds => ?_, fun r hr => ?_, ?_⟩
  · constructor
    · rintro ⟨⟨u, hu1, hu2, e1⟩, v, hv1, hv2, e2⟩
      refine ⟨65536 + (u - 55296) * 1024 + (v - 56320), ?_, ?_⟩
      · rcases hw with ⟨rfl, rfl, rfl, rfl, a, b⟩ | ⟨rfl, rfl, a, rfl, rfl⟩
        · omega
        · omega
      · unfold code16
        rw [if_neg (by rcases hw with ⟨rfl, rfl, rfl, rfl, a, b⟩ | ⟨rfl, rfl, a, rfl, rfl⟩ <;> omega)]
        rw [show 55296 + (65536 + (u - 55296) * 1024 + (v - 56320) - 65536) / 1024 = u by omega, show 56320 + (65536 + (u - 55296) * 1024 + (v - 56320) - 65536) % 1024 = v by omega]
        rw [← List.take_append_drop 2 ds, e1, e2]
        rfl
    · rintro ⟨c, ⟨h1', h2'⟩, rfl⟩
      unfold code16
      rw [if_neg (by omega)]
      obtain ⟨t1, t2⟩ := enc16_take (55296 + (c - 65536) / 1024) (56320 + (c - 65536) % 1024)
      rw [t1, t2]
      refine ⟨⟨_, ?_, ?_, rfl⟩, _, ?_, ?_, rfl⟩
      all_goals (rcases hw with ⟨rfl, rfl, rfl, rfl, a, b⟩ | ⟨rfl, rfl, a, rfl, rfl⟩ <;> omega)
  · obtain ⟨e, h⟩ := hz.shape r hr
    exact ⟨by omega, h⟩
  · rw [hz.size]
    rcases hw with ⟨rfl, rfl, rfl, rfl, a, b⟩ | ⟨rfl, rfl, a, rfl, rfl⟩
    · omega
    · rw [show p / 1024 - p / 1024 + 1 = (1 : Int) by omega, Int.one_mul]; omega
/-- a piece of a range, and the next one -/
theorem RS.next {ls ms : List (List (Int × Int))} {little : Bool} {x p last : Int} (h : RS ls (codeT little) (fun c => x ≤ c ∧ c < 65536 + p) (65536 + p - x)) (g : RS ms (codeT little) (fun c => 65536 + p ≤ c ∧ c ≤ 65536 + last) (last - p + 1)) (h0 : x ≤ 65536 + p) (h1 : p ≤ last) :
    RS (ls ++ ms) (codeT little) (fun c => x ≤ c ∧ c < 65536 + (last + 1)) (65536 + (last + 1) - x) :=
  (h.union (codeT_inj little) g fun c a b => by omega).congr (fun c => by omega) (by omega)
theorem RS.first (little : Bool) (x p : Int) (h : x = 65536 + p) : RS [] (codeT little) (fun c => x ≤ c ∧ c < 65536 + p) (65536 + p - x) :=
  (RS.nil _).congr (fun c => ⟨fun h => h.elim, fun h => by omega⟩) (by omega)
end Go.Proofs.YtpdcbddofekbcaaGreat
namespace Go.Proofs.YtpdcbddofekbcaaGreat
set_option linter.unusedVariables false
set_option linter.unusedSimpArgs false
def scalB (enc p : Int) : Bool := if enc = 4 then decide (0 ≤ p) && decide (p ≤ 255) else decide (0 ≤ p) && decide (p ≤ 1114111) && (decide (p < 55296) || decide (57343 < p))
theorem scalB_iff (enc p : Int) : scalB enc p = true ↔ ScalE enc p := by
  unfold scalB ScalE
  split <;> simp [and_assoc]
def roadE (enc : Int) (a : List (Int × Int)) : Int := if 1 ≤ enc ∧ enc ≤ 4 then chk a else 7
def FinR (enc : Int) (a : List (Int × Int)) (ls : List (List (Int × Int))) : Prop :=
  RS ls (codeE enc) (fun p => mem a p ∧ ScalE enc p) (cntB (fun p => memB a p && scalB enc p) 1114112) ∧ ls.Pairwise fun a b => lexB (keyR b) (keyR a) = false
theorem sizeR_perm {ls ms : List (List (Int × Int))} (h : ms.Perm ls) : sizeR ms = sizeR ls := by
  induction h with
  | nil => rfl
  | cons r _ ih => simp [sizeR, ih]
  | swap r s l => simp only [sizeR]; omega
  | trans _ _ h1 h2 => rw [h1, h2]
theorem RS.perm {ls ms : List (List (Int × Int))} {code : Int → List Int} {P : Int → Prop} {m : Int} (h : RS ls code P m) (p : ms.Perm ls) : RS ms code P m :=
  ⟨h.cov.perm p, fun r hr => h.shape r (p.mem_iff.1 hr), by rw [sizeR_perm p]; exact h.size⟩
theorem Can.mem_in {a : List (Int × Int)} (h : Can a) {p : Int} (k : mem a p) : 0 ≤ p ∧ p ≤ 1114111 := by
  obtain ⟨r, hr, h1, h2⟩ := k
  have := (okR_iff _).1 (h.1 r hr)
  omega
theorem ptsU_all {a : List (Int × Int)} (h : Can a) (p : Int) : ptsU a 5 p ↔ mem a p ∧ ScalE 1 p := by
  unfold ptsU ScalE
  rw [if_neg (by decide)]
  constructor
  · rintro ⟨j, hj, k, h1, h2⟩
    refine ⟨k, ?_⟩
    have hc : j = 0 ∨ j = 1 ∨ j = 2 ∨ j = 3 ∨ j = 4 := by omega
    unfold loU at h1
    unfold hiU at h2
    rcases hc with rfl | rfl | rfl | rfl | rfl <;> simp at h1 h2 <;> omega
  · rintro ⟨k, h0, h1, h2⟩
    by_cases c1 : p ≤ 127
    · exact ⟨0, by omega, k, by unfold loU; simp; omega, by unfold hiU; simp; omega⟩
    by_cases c2 : p ≤ 2047
    · exact ⟨1, by omega, k, by unfold loU; simp; omega, by unfold hiU; simp; omega⟩
    by_cases c3 : p ≤ 55295
    · exact ⟨2, by omega, k, by unfold loU; simp; omega, by unfold hiU; simp; omega⟩
    by_cases c4 : p ≤ 65535
    · exact ⟨3, by omega, k, by unfold loU; simp; omega, by unfold hiU; simp; omega⟩
    · exact ⟨4, by omega, k, by unfold loU; simp; omega, by unfold hiU; simp; omega⟩
theorem ptsV_all {a : List (Int × Int)} (h : Can a) {enc : Int} (he : enc ≠ 4) (p : Int) : ptsV a 3 p ↔ mem a p ∧ ScalE enc p := by
  unfold ptsV ScalE
  rw [if_neg he]
  constructor
  · rintro ⟨j, hj, k, h1, h2⟩
    refine ⟨k, ?_⟩
    have hc : j = 0 ∨ j = 1 ∨ j = 2 := by omega
    unfold loV at h1
    unfold hiV at h2
    rcases hc with rfl | rfl | rfl <;> simp at h1 h2 <;> omega
  · rintro ⟨k, h0, h1, h2⟩
    by_cases c3 : p ≤ 55295
    · exact ⟨0, by omega, k, by unfold loV; simp; omega, by unfold hiV; simp; omega⟩
    by_cases c4 : p ≤ 65535
    · exact ⟨1, by omega, k, by unfold loV; simp; omega, by unfold hiV; simp; omega⟩
    · exact ⟨2, by omega, k, by unfold loV; simp; omega, by unfold hiV; simp; omega⟩
theorem RS.fin8 {a : List (Int × Int)} (hc : Can a) {ls : List (List (Int × Int))} (h : RS ls code8 (ptsU a 5) (cntB (ptsB a 5) 1114112)) : RS ls (codeE 1) (fun p => mem a p ∧ ScalE 1 p) (cntB (fun p => memB a p && scalB 1 p) 1114112) := by
  have e : codeE 1 = code8 := by funext p; simp [codeE]
  rw [e]
  refine h.congr (ptsU_all hc) ?_
  refine congrArg (fun k : Nat => (k : Int)) (cntB_congr _ fun p _ _ => ?_)
  rw [Bool.eq_iff_iff, ptsB_iff, ptsU_all hc, Bool.and_eq_true, memB_iff, scalB_iff]
theorem RS.fin16 {a : List (Int × Int)} (hc : Can a) {ls : List (List (Int × Int))} {enc : Int} (he : enc = 2 ∨ enc = 3) (h : RS ls (codeT (decide (enc = 2))) (ptsV a 3) (cntB (ptsC a 3) 1114112)) : RS ls (codeE enc) (fun p => mem a p ∧ ScalE enc p) (cntB (fun p => memB a p && scalB enc p) 1114112) := by
  have e : codeE enc = codeT (decide (enc = 2)) := by
    funext p
    rcases he with rfl | rfl <;> simp [codeE, codeT]
  rw [e]
  have hn : enc ≠ 4 := by omega
  refine h.congr (ptsV_all hc hn) ?_
  refine congrArg (fun k : Nat => (k : Int)) (cntB_congr _ fun p _ _ => ?_)
  rw [Bool.eq_iff_iff, ptsC_iff, ptsV_all hc hn, Bool.and_eq_true, memB_iff, scalB_iff]
theorem code1_inj : ∀ p q : Int, [p] = [q] → p = q := fun p q h => by injection h
theorem RS.one1 {x y : Int} (h0 : 0 ≤ x) (h1 : x ≤ y) (h2 : y ≤ 255) : RS [[(x, y)]] (fun p => [p]) (fun p => x ≤ p ∧ p ≤ y) (y - x + 1) := by
  have h := RC.one 256 0 0 (a := x) (b := y) (by omega) h1 (by omega)
  rw [Int.zero_add, Int.zero_add] at h
  exact h.rs (ENum.code fun p _ _ => by simp [encB]) (by decide) (by decide)
theorem RS.fin1 {a out : List (Int × Int)} (hc : Can a) {ls : List (List (Int × Int))} (ho : IsSet out fun p => mem a p ∧ 0 ≤ p ∧ p ≤ 255) (h : RS ls (fun p => [p]) (fun p => False ∨ mem out p) (0 + countL out)) : RS ls (codeE 4) (fun p => mem a p ∧ ScalE 4 p) (cntB (fun p => memB a p && scalB 4 p) 1114112) := by
  have e : codeE 4 = fun p => [p] := by funext p; simp [codeE]
  rw [e]
  refine h.congr (fun p => ?_) ?_
  · rw [ho.2 p]; unfold ScalE; simp
  · rw [countL_cnt ho.1, Int.zero_add]
    refine congrArg (fun k : Nat => (k : Int)) (cntB_congr _ fun p _ _ => ?_)
    rw [Bool.eq_iff_iff, memB_iff, ho.2, Bool.and_eq_true, memB_iff, scalB_iff]; unfold ScalE; simp
end Go.Proofs.YtpdcbddofekbcaaGreat
