/- Roads in their order; what stands in a text, plain. No condition. -/
import Derived.Test.YtihodjfnhkihiaaSpP
namespace Go.Proofs.Ytihodjfnhkihiaa
set_option linter.unusedVariables false
set_option linter.unusedSimpArgs false
def keyR (r : List (Int × Int)) : List Int := r.map Prod.fst
def cmpL : List Int → List Int → Int
  | [], [] => 0
  | [], _ :: _ => -1
  | _ :: _, [] => 1
  | x :: a, y :: b => if x - y ≠ 0 then x - y else cmpL a b
def lexB : List Int → List Int → Bool
  | [], [] => false
  | [], _ :: _ => true
  | _ :: _, [] => false
  | x :: a, y :: b => if x ≠ y then decide (x < y) else lexB a b
theorem cmpL_lex : ∀ a b : List Int, decide (cmpL a b < 0) = lexB a b
  | [], [] => rfl
  | [], _ :: _ => rfl
  | _ :: _, [] => rfl
  | x :: a, y :: b => by
    unfold cmpL lexB
    by_cases h : x = y
    · subst h; simp [cmpL_lex a b]
    · rw [if_pos (by omega), if_pos h]
      by_cases h2 : x < y
      · rw [decide_eq_true h2, decide_eq_true (by omega)]
      · rw [decide_eq_false h2, decide_eq_false (by omega)]
theorem lexB_irrefl : ∀ a : List Int, lexB a a = false
  | [] => rfl
  | x :: a => by unfold lexB; simp [lexB_irrefl a]
theorem lexB_trans : ∀ a b c : List Int, lexB a b = true → lexB b c = true → lexB a c = true
  | [], [], _, h, _ => by simp [lexB] at h
  | [], _ :: _, [], _, h => by simp [lexB] at h
  | [], _ :: _, _ :: _, _, _ => rfl
  | _ :: _, [], _, h, _ => by simp [lexB] at h
  | _ :: _, _ :: _, [], _, h => by simp [lexB] at h
  | x :: a, y :: b, z :: c, h, k => by
    unfold lexB at h k ⊢
    by_cases h1 : x = y
    · subst h1
      by_cases h2 : x = z
      · subst h2
        simp only [ne_eq, not_true_eq_false, if_false] at h k ⊢
        exact lexB_trans a b c h k
      · rw [if_pos h2] at k ⊢; exact k
    · rw [if_pos h1] at h
      have h := of_decide_eq_true h
      by_cases h2 : y = z
      · subst h2; rw [if_pos h1]; exact decide_eq_true h
      · rw [if_pos h2] at k
        have k := of_decide_eq_true k
        rw [if_pos (by omega)]; exact decide_eq_true (by omega)
theorem lexB_total : ∀ a b : List Int, lexB a b = false → lexB b a = false → a = b
  | [], [], _, _ => rfl
  | [], _ :: _, h, _ => by simp [lexB] at h
  | _ :: _, [], _, h => by simp [lexB] at h
  | x :: a, y :: b, h, k => by
    unfold lexB at h k
    by_cases h1 : x = y
    · subst h1
      simp only [ne_eq, not_true_eq_false, if_false] at h k
      rw [lexB_total a b h k]
    · rw [if_pos h1] at h
      rw [if_pos (fun e => h1 e.symm)] at k
      have h := of_decide_eq_false h
      have k := of_decide_eq_false k
      omega
theorem lexB_ntrans (a b c : List Int) (h : lexB a b = false) (k : lexB b c = false) : lexB a c = false := by
  cases hh : lexB a c
  · rfl
  · cases h2 : lexB b a
    · rw [lexB_total a b h h2, k] at hh; exact hh.symm
    · have := lexB_trans b a c h2 hh
      rw [this] at k; cases k
theorem hit_key : ∀ r : List (Int × Int), (∀ x ∈ r, x.1 ≤ x.2) → hitR r (keyR r) = true
  | [], _ => rfl
  | x :: r, h => by
    have h1 := h x (by simp)
    simp only [keyR, List.map_cons, hitR]
    have := hit_key r fun y hy => h y (by simp [hy])
    simp only [keyR] at this
    simp [this, h1]
/-- two roads with one key: a row of bytes goes along both -/
theorem cntR_two {ls : List (List (Int × Int))} {i j : Nat} (hij : i < j) (hj : j < ls.length) {ds : List Int} (h1 : hitR (ls[i]'(by omega)) ds = true) (h2 : hitR ls[j] ds = true) : 2 ≤ cntR ls ds := by
  have e : ls = ls.take j ++ [ls[j]] ++ ls.drop (j + 1) := by rw [← List.take_succ_eq_append_getElem hj, List.take_append_drop]
  rw [e, cntR_append, cntR_append]
  have a : 1 ≤ cntR (ls.take j) ds := by
    unfold cntR
    have : ls[i]'(by omega) ∈ (ls.take j).filter fun r => hitR r ds := by
      rw [List.mem_filter]
      exact ⟨List.mem_take_iff_getElem.2 ⟨i, by omega, rfl⟩, h1⟩
    exact List.length_pos_of_mem this
  have b : 1 ≤ cntR [ls[j]] ds := by simp [cntR, List.filter, h2]
  omega
theorem cov_rises {ls : List (List (Int × Int))} {S : List Int → Prop} {n : Nat} (h : Cov ls S) (hs : ∀ r ∈ ls, ∀ x ∈ r, x.1 ≤ x.2) (ho : ls.Pairwise fun a b => lexB (keyR b) (keyR a) = false) {i : Nat} (hi : i + 1 < ls.length) : lexB (keyR (ls[i]'(by omega))) (keyR ls[i + 1]) = true := by
  cases hh : lexB (keyR (ls[i]'(by omega))) (keyR ls[i + 1])
  · exfalso
    have h2 := List.pairwise_iff_getElem.1 ho i (i + 1) (by omega) hi (Nat.lt_succ_self i)
    have e := lexB_total _ _ hh h2
    have a1 := hit_key ls[i + 1] (hs _ (List.getElem_mem hi))
    have a0 := hit_key (ls[i]'(by omega)) (hs _ (List.getElem_mem (by omega)))
    rw [e] at a0
    have := cntR_two (Nat.lt_succ_self i) hi a0 a1
    by_cases s : S (keyR ls[i + 1])
    · rw [(h _).1 s] at this; omega
    · rw [(h _).2 s] at this; omega
  · rfl
theorem Cov.perm {ls ms : List (List (Int × Int))} {S : List Int → Prop} (h : Cov ls S) (p : ms.Perm ls) : Cov ms S := fun ds => by
  have : cntR ms ds = cntR ls ds := (p.filter _).length_eq
  rw [this]; exact h ds
/-! ### what stands in a text -/
def bAt (bl : List Int) (i : Nat) : Int := bl.getD i (-1)
def standU (enc : Int) (bl : List Int) (i : Nat) : Int := if enc = 2 then bAt bl i + 256 * bAt bl (i + 1) else 256 * bAt bl i + bAt bl (i + 1)
def standP (enc : Int) (bl : List Int) : Int :=
  if enc = 1 then
    if bAt bl 0 < 128 then bAt bl 0
    else if bAt bl 0 < 224 then (bAt bl 0).tmod 32 * 64 + (bAt bl 1).tmod 64
    else if bAt bl 0 < 240 then (bAt bl 0).tmod 16 * 4096 + (bAt bl 1).tmod 64 * 64 + (bAt bl 2).tmod 64
    else (bAt bl 0).tmod 8 * 262144 + (bAt bl 1).tmod 64 * 4096 + (bAt bl 2).tmod 64 * 64 + (bAt bl 3).tmod 64
  else if 0 ≤ bAt bl 1 ∧ 55296 ≤ standU enc bl 0 ∧ standU enc bl 0 ≤ 56319 then 65536 + (standU enc bl 0 - 55296) * 1024 + standU enc bl 2 - 56320
  else standU enc bl 0
theorem tmod_of {x m : Int} (h : 0 ≤ x) : x.tmod m = x % m := Int.tmod_eq_emod_of_nonneg h
theorem standP_code {enc q : Int} (he : 1 ≤ enc ∧ enc ≤ 3) (hq : ScalE enc q) : standP enc (codeE enc q) = q := by
  unfold ScalE at hq
  rw [if_neg (by omega)] at hq
  unfold standP codeE
  by_cases h1 : enc = 1
  · subst h1
    simp only [if_true]
    unfold code8
    by_cases a : q < 128
    · rw [if_pos a]
      simp [encB, bAt, a]
    · rw [if_neg a]
      by_cases b : q < 2048
      · rw [if_pos b]
        simp only [encB, bAt, List.getD_cons_zero, List.getD_cons_succ, show (64 : Int) ^ (0 + 1) = 64 from rfl, show (64 : Int) ^ (1 + 1) = 4096 from rfl, show (64 : Int) ^ (2 + 1) = 262144 from rfl]
        rw [if_neg (by omega), if_pos (by omega), tmod_of (by omega), tmod_of (by omega)]
        omega
      · rw [if_neg b]
        by_cases c : q < 65536
        · rw [if_pos c]
          simp only [encB, bAt, List.getD_cons_zero, List.getD_cons_succ, show (64 : Int) ^ (0 + 1) = 64 from rfl, show (64 : Int) ^ (1 + 1) = 4096 from rfl, show (64 : Int) ^ (2 + 1) = 262144 from rfl]
          rw [if_neg (by omega), if_neg (by omega), if_pos (by omega), tmod_of (by omega), tmod_of (by omega), tmod_of (by omega)]
          omega
        · rw [if_neg c]
          simp only [encB, bAt, List.getD_cons_zero, List.getD_cons_succ, show (64 : Int) ^ (0 + 1) = 64 from rfl, show (64 : Int) ^ (1 + 1) = 4096 from rfl, show (64 : Int) ^ (2 + 1) = 262144 from rfl]
          rw [if_neg (by omega), if_neg (by omega), if_neg (by omega), tmod_of (by omega), tmod_of (by omega), tmod_of (by omega), tmod_of (by omega)]
          omega
  · have hc : ∀ u, pair16 u = [u / 256, u % 256] := fun u => by simp [pair16, encB]
    rw [if_neg h1, if_neg h1, if_neg (show ¬ enc = 4 by omega)]
    unfold code16
    by_cases h2 : enc = 2
    · subst h2
      rw [if_pos rfl]
      by_cases a : q < 65536
      · rw [if_pos a, hc]
        simp only [turnL, bAt, standU, List.getD_cons_zero, List.getD_cons_succ, if_true]
        rw [if_neg (by omega)]
        omega
      · rw [if_neg a, hc, hc]
        simp only [List.cons_append, List.nil_append, turnL, bAt, standU, List.getD_cons_zero, List.getD_cons_succ, if_true]
        rw [if_pos (by omega)]
        omega
    · rw [if_neg h2]
      by_cases a : q < 65536
      · rw [if_pos a, hc]
        simp only [bAt, standU, if_neg h2, List.getD_cons_zero, List.getD_cons_succ]
        rw [if_neg (by omega)]
        omega
      · rw [if_neg a, hc, hc]
        simp only [List.cons_append, List.nil_append, bAt, standU, if_neg h2, List.getD_cons_zero, List.getD_cons_succ]
        rw [if_pos (by omega)]
        omega
/-! ### pairs of units -/
theorem enc16_take (u v : Int) : (pair16 u ++ pair16 v).take 2 = pair16 u ∧ (pair16 u ++ pair16 v).drop 2 = pair16 v := by simp [pair16, encB]
theorem pairs_rs {p last : Int} {xs ys : List (List (Int × Int))} {h0 h1 l0 l1 : Int} (hp : 0 ≤ p) (hpl : p ≤ last)
    (hx : RC xs (ENum 256 0 0 1 (55296 + h0) (55296 + h1)) 2 (h1 - h0 + 1)) (hy : RC ys (ENum 256 0 0 1 (56320 + l0) (56320 + l1)) 2 (l1 - l0 + 1))
    (hl : 0 ≤ l0 ∧ l1 ≤ 1023) (hw : (h0 = p / 1024 ∧ h1 = last / 1024 ∧ l0 = 0 ∧ l1 = 1023 ∧ p % 1024 = 0 ∧ last % 1024 = 1023) ∨ (h0 = p / 1024 ∧ h1 = h0 ∧ p / 1024 = last / 1024 ∧ l0 = p % 1024 ∧ l1 = last % 1024)) :
    RS (xs.flatMap fun x => ys.map fun y => x ++ y) code16 (fun c => 65536 + p ≤ c ∧ c ≤ 65536 + last) (last - p + 1) := by
  refine ⟨(hx.cov.prod hy.cov fun r hr => (hx.shape r hr).1).congr fun ds => ?_, fun r hr => ?_, ?_⟩
  · constructor
    · rintro ⟨⟨u, hu1, hu2, e1⟩, v, hv1, hv2, e2⟩
      refine ⟨65536 + (u - 55296) * 1024 + (v - 56320), ?_, ?_⟩
      · rcases hw with ⟨rfl, rfl, rfl, rfl, a, b⟩ | ⟨rfl, rfl, a, rfl, rfl⟩
        · omega
        · omega
      · unfold code16
        rw [if_neg (by rcases hw with ⟨rfl, rfl, rfl, rfl, a, b⟩ | ⟨rfl, rfl, a, rfl, rfl⟩ <;> omega)]
        rw [show 55296 + (65536 + (u - 55296) * 1024 + (v - 56320) - 65536) / 1024 = u by omega, show 56320 + (65536 + (u - 55296) * 1024 + (v - 56320) - 65536) % 1024 = v by omega]
        rw [← List.take_append_drop 2 ds, e1, e2]
        rfl
    · rintro ⟨c, ⟨h1', h2'⟩, rfl⟩
      unfold code16
      rw [if_neg (by omega)]
      obtain ⟨t1, t2⟩ := enc16_take (55296 + (c - 65536) / 1024) (56320 + (c - 65536) % 1024)
      rw [t1, t2]
      refine ⟨⟨_, ?_, ?_, rfl⟩, _, ?_, ?_, rfl⟩
      all_goals (rcases hw with ⟨rfl, rfl, rfl, rfl, a, b⟩ | ⟨rfl, rfl, a, rfl, rfl⟩ <;> omega)
  · obtain ⟨e, h⟩ := (hx.shape.prod hy.shape) r hr
    exact ⟨by omega, h⟩
  · rw [sizeR_prod, hx.size, hy.size]
    rcases hw with ⟨rfl, rfl, rfl, rfl, a, b⟩ | ⟨rfl, rfl, a, rfl, rfl⟩
    · omega
    · rw [show p / 1024 - p / 1024 + 1 = (1 : Int) by omega, Int.one_mul]; omega
theorem bmp_rs {a b : Int} (hb : b ≤ 65535) {ls : List (List (Int × Int))} (h : RC ls (ENum 256 0 0 1 a b) 2 (b - a + 1)) : RS ls code16 (fun c => a ≤ c ∧ c ≤ b) (b - a + 1) :=
  h.rs (ENum.code fun x h1 h2 => by unfold code16; rw [if_pos (by omega)]; rfl) (by decide) (by decide)
theorem RS.turn {ls : List (List (Int × Int))} {P : Int → Prop} {m : Int} (h : RS ls code16 P m) : RS (ls.map turnL) (fun p => turnL (code16 p)) P m :=
  ⟨h.cov.turn.congr fun ds => ⟨fun ⟨p, hp, e⟩ => ⟨p, hp, by rw [← turnL_turnL ds, e]⟩, fun ⟨p, hp, e⟩ => ⟨p, hp, by rw [e, turnL_turnL]⟩⟩, fun r hr => by
    obtain ⟨r', hr', rfl⟩ := List.mem_map.1 hr
    obtain ⟨e, hx⟩ := h.shape r' hr'
    obtain ⟨e2, h2⟩ := (Shape.turn (n := r'.length) (ls := [r']) fun q hq => by rw [List.mem_singleton.1 hq]; exact ⟨rfl, hx⟩) (turnL r') (by simp)
    exact ⟨by omega, h2⟩, by rw [sizeR_turn]; exact h.size⟩
end Go.Proofs.Ytihodjfnhkihiaa
