/- TokenMoves: walked. -/
import Derived.Test.YtmjlmjlkghpknaaTkLa
import Derived.Test.YtmjlmjlkghpknaaTkMv
import Derived.Test.YtmjlmjlkghpknaaTkZ
namespace Go.Proofs.Ytmjlmjlkghpknaa
open Go.RowKit
set_option linter.unusedVariables false
set_option linter.unusedSimpArgs false
/-- the outcome's cells -/
theorem rout_vals {r : TR} {e : Ending} (h : ROut r e) : e = .returned (.tuple #[.agg #[.int .i64 (tkR r).kind, .int .i64 (tkR r).num, .string ⟨(tkR r).text.toArray⟩, .bool (tkR r).not_, .int .i64 (tkR r).least, .int .i64 (tkR r).most, .int .i64 (tkR r).way, .int .i64 (tkR r).fold], .int .i64 (posR r), .int .i64 (errR r)]) := by
  cases r <;> exact h
theorem moves_plain {d : Int} {a l : List Int} (h300 : a.length + l.length ≤ 300) (hl : l.length ≠ 0) (hr : rightE 1 (a ++ l) = 0) (h7 : errR (nextR d l 0) ≠ 7) :
    nextR d l 0 = tokenP d l 0 ∧ nextR d (a ++ l) a.length = shR a.length (nextR d l 0) := by
  have hd : 1 ≤ d ∧ d ≤ 3 := by
    by_cases h : d < 1 ∨ 3 < d
    · exact absurd (by rw [nextR_kind l 0 h]; rfl) h7
    · omega
  have hall : (a ++ l).all okPt = true := (rightE_ok hr).2.1
  have hall' := hall
  rw [List.all_append, Bool.and_eq_true] at hall
  have h1 : rightE d l = 0 := by unfold rightE; rw [if_neg (by omega), if_neg (by omega), if_pos hall.2]
  have h2 : rightE d (a ++ l) = 0 := by unfold rightE; rw [if_neg (by omega), if_neg (by simp; omega), if_pos hall']
  have e1 : nextR d l 0 = tokenP d l 0 := by unfold nextR; rw [if_neg (by rw [h1]; simp), if_neg (by omega)]
  refine ⟨e1, ?_⟩
  rw [e1]
  unfold nextR
  rw [if_neg (by rw [h2]; simp), if_neg (by simp; omega)]
  have := token_sh d a l 0 (by omega)
  simpa using this
theorem moves_ok {d : Int} {a l : List Int} (h300 : a.length + l.length ≤ 300) (hl : l.length ≠ 0) (hr : rightE 1 (a ++ l) = 0) (h7 : errR (nextR d l 0) ≠ 7) :
    (nextR d l 0 = .error (errR (nextR d l 0)) ∧ errR (nextR d l 0) ≠ 0 ∧ nextR d (a ++ l) a.length = nextR d l 0) ∨
    (∃ t p, nextR d l 0 = .ok (t, p) ∧ 1 ≤ p ∧ p ≤ l.length ∧ nextR d (a ++ l) a.length = .ok (t, p + a.length)) := by
  obtain ⟨h1, h2⟩ := moves_plain h300 hl hr h7
  have hm := token_mv d l 0 (by omega)
  have he := token_er d l 0
  rw [← h1] at hm he
  rw [h2]
  cases hx : nextR d l 0 with
  | error x => exact .inl ⟨rfl, he x hx, rfl⟩
  | ok q => obtain ⟨t, p⟩ := q; exact .inr ⟨t, p, rfl, by have := (hm t p hx).1; omega, (hm t p hx).2, by rw [Int.add_comm p]; rfl⟩

theorem cells8 {w : World} {g : Nat} {a b c d e f h i : Value} {t : TypeId} (hg : w.heap[g]? = some (.cells #[a, b, c, d, e, f, h, i] t (0, 0))) :
    w.cell? ⟨g, 0, none⟩ = some a ∧ w.cell? ⟨g, 0 + 1, none⟩ = some b ∧ w.cell? ⟨g, 0 + 2, none⟩ = some c ∧ w.cell? ⟨g, 0 + 3, none⟩ = some d ∧ w.cell? ⟨g, 0 + 4, none⟩ = some e ∧ w.cell? ⟨g, 0 + 5, none⟩ = some f ∧ w.cell? ⟨g, 0 + 6, none⟩ = some h ∧ w.cell? ⟨g, 0 + 7, none⟩ = some i := by
  refine ⟨?_, ?_, ?_, ?_, ?_, ?_, ?_, ?_⟩ <;> rw [cell_of_row _ _ _ _ _ _ hg] <;> rfl

set_option maxRecDepth 100000 in
set_option maxHeartbeats 4000000 in
theorem lawTokenMoves (d : Int) (a l : List Int) (A : Option Addr) (n c : Nat) (B : Option Addr) (m k : Nat) (w : World) (hn : n ≤ 1048576) (hm : m ≤ 1048576) (hnc : n ≤ c) (hmk : m ≤ k) (ha : Rds w w.heap.size 1 A n (ints a)) (hl : Rds w w.heap.size 1 B m (ints l)) :
    Calls Try.prog 4 #[.int .i64 d, .slice A n c, .slice B m k] w fun e w' => e = .returned (.bool true) ∧ Below w.heap.size w w' := by
  have HNL := Lib.hid ha.ints_len
  have HML := Lib.hid hl.ints_len
  have HA := Lib.hid ha
  have HL := Lib.hid hl
  have hnm : n + m ≤ maxLen := by unfold maxLen; omega
  have hmm : m ≤ maxLen := by unfold maxLen; omega
  have C1 := Lib.hid (fun w' (hb : Below w.heap.size w w') => next8 d 0 l B m k w' hmm hmk ((hl.below hb (Nat.le_refl _)).more hb.size))
  have C2 := Lib.hid (fun w' A' c' (hc : n + m ≤ c') (h : Rds w' w'.heap.size 1 A' (n + m) (ints (a ++ l))) => next8 d n (a ++ l) A' (n + m) c' w' hnm hc h)
  have C9 := Lib.hid (fun w' A' c' (h : Rds w' w'.heap.size 1 A' (n + m) (ints (a ++ l))) => right9 1 (a ++ l) A' (n + m) c' w'.heap.size w' hnm h)
  have MO := Lib.hid (fun h300 hl hr h7 => moves_ok (d := d) (a := a) (l := l) h300 hl hr h7)
  clear ha hl hnm hmm
  obtain ⟨r1, hr1⟩ : ∃ r1, r1 = nextR d l 0 := ⟨_, rfl⟩
  obtain ⟨r2, hr2⟩ : ∃ r2, r2 = nextR d (a ++ l) n := ⟨_, rfl⟩
  obtain ⟨q, hq⟩ : ∃ q, q = rightE 1 (a ++ l) := ⟨_, rfl⟩
  rw [HNL.out, HML.out, ← hr1, ← hq, ← hr2] at MO
  rw [← hr1] at C1
  rw [← hr2] at C2
  rw [← hq] at C9
  clear hr1 hr2 hq
  have C1 := Lib.hid (fun w' hb => (C1.out w' hb).mono fun e w'' h => And.intro (rout_vals h.1) h.2)
  have C2 := Lib.hid (fun w' A' c' hc hr => (C2.out w' A' c' hc hr).mono fun e w'' h => And.intro (rout_vals h.1) h.2)

  obtain ⟨e1, he1⟩ : ∃ x, x = errR r1 := ⟨_, rfl⟩
  rw [← he1] at C1 MO
  by_cases h300 : 300 < n + m
  · have h300i : (300 : Int) < (n : Int) + (m : Int) := by omega
    obtain ⟨tk, ht⟩ : ∃ tk, tk = tkR r1 := ⟨_, rfl⟩
    obtain ⟨t2, ht2⟩ : ∃ tk, tk = tkR r2 := ⟨_, rfl⟩
    obtain ⟨e2, he2⟩ : ∃ x, x = errR r2 := ⟨_, rfl⟩
    obtain ⟨p1, hp1⟩ : ∃ x, x = posR r1 := ⟨_, rfl⟩
    obtain ⟨p2, hp2⟩ : ∃ x, x = posR r2 := ⟨_, rfl⟩
    rw [← ht, ← hp1] at C1
    rw [← ht2, ← he2, ← hp2] at C2
    clear MO
    clear ht ht2 he1 he2 hp1 hp2
    go_enter Try.func4, Try.ntmps4
    go_wp2_with (first
      | (go_at_call 11; refine (tokenBegun11 w).mono ?_; rintro e w1 ⟨rfl, hb⟩; have HB1 := Lib.hid hb; clear hb)
      | (go_at_call 8; (with_reducible refine (C1.out w1 HB1.out).mono ?_); rintro e w2 ⟨rfl, hb⟩; have HB2 := Lib.hid (HB1.out.trans (hb.mono HB1.out.size)); clear hb; have hz2 := HB2.out.size; have HB3 := Lib.hid (HB2.out.alloc hz2 (.cells #[.int .i64 tk.kind, .int .i64 tk.num, .string ⟨tk.text.toArray⟩, .bool tk.not_, .int .i64 tk.least, .int .i64 tk.most, .int .i64 tk.way, .int .i64 tk.fold] 24)); have hn0 := own_new (w2.alloc (.cells #[.int .i64 tk.kind, .int .i64 tk.num, .string ⟨tk.text.toArray⟩, .bool tk.not_, .int .i64 tk.least, .int .i64 tk.most, .int .i64 tk.way, .int .i64 tk.fold] 24)) (w2.heap.size + 1) 3 1 0 #[] (by simp) rfl (by decide); rw [show (World.alloc w2 (.cells #[.int .i64 tk.kind, .int .i64 tk.num, .string ⟨tk.text.toArray⟩, .bool tk.not_, .int .i64 tk.least, .int .i64 tk.most, .int .i64 tk.way, .int .i64 tk.fold] 24)).heap.size = w2.heap.size + 1 from by simp] at hn0; have HN0 := Lib.hid hn0; clear hn0)
      | (at_builtin; refine app_ints (.tmp 23) (.tmp 24) (base := w2.heap.size + 1) (xs := []) (n := 0) (by exact HN0.out) ((HA.out.below HB3.out (Nat.le_refl _)).alloc HB3.out.size _) (by omega) (by simp) rfl rfl rfl rfl ?_; intro v3 w3 hown3 hg3 hat3; have HO3 := Lib.hid hown3; have HX3 := Lib.hid (show Below (w2.heap.size + 1) (w2.alloc (.cells #[.int .i64 tk.kind, .int .i64 tk.num, .string ⟨tk.text.toArray⟩, .bool tk.not_, .int .i64 tk.least, .int .i64 tk.most, .int .i64 tk.way, .int .i64 tk.fold] 24)) w3 from grown_own ((Below.refl _ _).alloc (by simp) _) HN0.out hg3 (Nat.le_refl _) (by simp)); have hx3 := HX3.out.size; simp at hx3; clear hown3 hg3 hat3)
      | (at_builtin; refine app_ints (.tmp 25) (.tmp 26) (base := w2.heap.size + 1) (by exact HO3.out) (HL.out.below (HB3.out.trans (HX3.out.mono (by omega))) (Nat.le_refl _)) (by omega) (by omega) rfl rfl rfl rfl ?_; intro v4 w4 hown4 hg4 hat4; have HX4 := Lib.hid (show Below (w2.heap.size + 1) (w2.alloc (.cells #[.int .i64 tk.kind, .int .i64 tk.num, .string ⟨tk.text.toArray⟩, .bool tk.not_, .int .i64 tk.least, .int .i64 tk.most, .int .i64 tk.way, .int .i64 tk.fold] 24)) w4 from grown_own HX3.out HO3.out hg4 (Nat.le_refl _) (by omega)); have hx4 := HX4.out.size; simp at hx4; obtain ⟨A4, c4, rfl, hc4, -⟩ := own_slice hown4; have HO4 := Lib.hid (show Rds w4 w4.heap.size 1 A4 (n + m) (ints (a ++ l)) by have h := Rds.of_own hown4; simpa using h); clear hown4 hg4 hat4)
      | (go_at_call 8; (with_reducible refine (C2.out w4 A4 c4 (by omega) HO4.out).mono ?_); rintro e w5 ⟨rfl, hb⟩; have hx5 := hb.size; have HX5 := Lib.hid (HX4.out.trans (hb.mono (by omega))); have HO5 := Lib.hid ((HO4.out.below hb (Nat.le_refl _)).more hb.size); have hz5 : w5.heap[w2.heap.size]? = some (.cells #[.int .i64 tk.kind, .int .i64 tk.num, .string ⟨tk.text.toArray⟩, .bool tk.not_, .int .i64 tk.least, .int .i64 tk.most, .int .i64 tk.way, .int .i64 tk.fold] 24) := (HX5.out.block _ (by omega)).trans (heap_alloc_new _ _); obtain ⟨k1, k2, k3, k4, k5, k6, k7, k8⟩ := cells8 hz5; clear hz5 hb; have hlt5 : w2.heap.size < w5.heap.size := by omega)
      | (go_at_call 9; refine (C9.out _ A4 c4 ((HO5.out.alloc (Nat.le_refl _) _).more (by simp))).mono ?_; rintro e w6 ⟨rfl, rfl⟩))
    go_ret
    exact ⟨rfl, (HB3.out.trans (HX5.out.mono (by omega))).alloc (by omega) _⟩
  have h300i : ¬ (300 : Int) < (n : Int) + (m : Int) := by omega
  by_cases h7 : e1 = 7
  · have h7b : (e1 == 7) = true := by simp [h7]
    obtain ⟨tk, ht⟩ : ∃ tk, tk = tkR r1 := ⟨_, rfl⟩
    obtain ⟨t2, ht2⟩ : ∃ tk, tk = tkR r2 := ⟨_, rfl⟩
    obtain ⟨e2, he2⟩ : ∃ x, x = errR r2 := ⟨_, rfl⟩
    obtain ⟨p1, hp1⟩ : ∃ x, x = posR r1 := ⟨_, rfl⟩
    obtain ⟨p2, hp2⟩ : ∃ x, x = posR r2 := ⟨_, rfl⟩
    rw [← ht, ← hp1] at C1
    rw [← ht2, ← he2, ← hp2] at C2
    clear MO
    clear ht ht2 he1 he2 hp1 hp2 h7
    go_enter Try.func4, Try.ntmps4
    go_wp2_with (first
      | (go_at_call 11; refine (tokenBegun11 w).mono ?_; rintro e w1 ⟨rfl, hb⟩; have HB1 := Lib.hid hb; clear hb)
      | (go_at_call 8; (with_reducible refine (C1.out w1 HB1.out).mono ?_); rintro e w2 ⟨rfl, hb⟩; have HB2 := Lib.hid (HB1.out.trans (hb.mono HB1.out.size)); clear hb; have hz2 := HB2.out.size; have HB3 := Lib.hid (HB2.out.alloc hz2 (.cells #[.int .i64 tk.kind, .int .i64 tk.num, .string ⟨tk.text.toArray⟩, .bool tk.not_, .int .i64 tk.least, .int .i64 tk.most, .int .i64 tk.way, .int .i64 tk.fold] 24)); have hn0 := own_new (w2.alloc (.cells #[.int .i64 tk.kind, .int .i64 tk.num, .string ⟨tk.text.toArray⟩, .bool tk.not_, .int .i64 tk.least, .int .i64 tk.most, .int .i64 tk.way, .int .i64 tk.fold] 24)) (w2.heap.size + 1) 3 1 0 #[] (by simp) rfl (by decide); rw [show (World.alloc w2 (.cells #[.int .i64 tk.kind, .int .i64 tk.num, .string ⟨tk.text.toArray⟩, .bool tk.not_, .int .i64 tk.least, .int .i64 tk.most, .int .i64 tk.way, .int .i64 tk.fold] 24)).heap.size = w2.heap.size + 1 from by simp] at hn0; have HN0 := Lib.hid hn0; clear hn0)
      | (at_builtin; refine app_ints (.tmp 23) (.tmp 24) (base := w2.heap.size + 1) (xs := []) (n := 0) (by exact HN0.out) ((HA.out.below HB3.out (Nat.le_refl _)).alloc HB3.out.size _) (by omega) (by simp) rfl rfl rfl rfl ?_; intro v3 w3 hown3 hg3 hat3; have HO3 := Lib.hid hown3; have HX3 := Lib.hid (show Below (w2.heap.size + 1) (w2.alloc (.cells #[.int .i64 tk.kind, .int .i64 tk.num, .string ⟨tk.text.toArray⟩, .bool tk.not_, .int .i64 tk.least, .int .i64 tk.most, .int .i64 tk.way, .int .i64 tk.fold] 24)) w3 from grown_own ((Below.refl _ _).alloc (by simp) _) HN0.out hg3 (Nat.le_refl _) (by simp)); have hx3 := HX3.out.size; simp at hx3; clear hown3 hg3 hat3)
      | (at_builtin; refine app_ints (.tmp 25) (.tmp 26) (base := w2.heap.size + 1) (by exact HO3.out) (HL.out.below (HB3.out.trans (HX3.out.mono (by omega))) (Nat.le_refl _)) (by omega) (by omega) rfl rfl rfl rfl ?_; intro v4 w4 hown4 hg4 hat4; have HX4 := Lib.hid (show Below (w2.heap.size + 1) (w2.alloc (.cells #[.int .i64 tk.kind, .int .i64 tk.num, .string ⟨tk.text.toArray⟩, .bool tk.not_, .int .i64 tk.least, .int .i64 tk.most, .int .i64 tk.way, .int .i64 tk.fold] 24)) w4 from grown_own HX3.out HO3.out hg4 (Nat.le_refl _) (by omega)); have hx4 := HX4.out.size; simp at hx4; obtain ⟨A4, c4, rfl, hc4, -⟩ := own_slice hown4; have HO4 := Lib.hid (show Rds w4 w4.heap.size 1 A4 (n + m) (ints (a ++ l)) by have h := Rds.of_own hown4; simpa using h); clear hown4 hg4 hat4)
      | (go_at_call 8; (with_reducible refine (C2.out w4 A4 c4 (by omega) HO4.out).mono ?_); rintro e w5 ⟨rfl, hb⟩; have hx5 := hb.size; have HX5 := Lib.hid (HX4.out.trans (hb.mono (by omega))); have HO5 := Lib.hid ((HO4.out.below hb (Nat.le_refl _)).more hb.size); have hz5 : w5.heap[w2.heap.size]? = some (.cells #[.int .i64 tk.kind, .int .i64 tk.num, .string ⟨tk.text.toArray⟩, .bool tk.not_, .int .i64 tk.least, .int .i64 tk.most, .int .i64 tk.way, .int .i64 tk.fold] 24) := (HX5.out.block _ (by omega)).trans (heap_alloc_new _ _); obtain ⟨k1, k2, k3, k4, k5, k6, k7, k8⟩ := cells8 hz5; clear hz5 hb; have hlt5 : w2.heap.size < w5.heap.size := by omega)
      | (go_at_call 9; refine (C9.out _ A4 c4 ((HO5.out.alloc (Nat.le_refl _) _).more (by simp))).mono ?_; rintro e w6 ⟨rfl, rfl⟩))
    go_ret
    exact ⟨rfl, (HB3.out.trans (HX5.out.mono (by omega))).alloc (by omega) _⟩
  have h7b : (e1 == 7) = false := by simpa using h7
  by_cases hm0 : m = 0
  · 
    obtain ⟨tk, ht⟩ : ∃ tk, tk = tkR r1 := ⟨_, rfl⟩
    obtain ⟨t2, ht2⟩ : ∃ tk, tk = tkR r2 := ⟨_, rfl⟩
    obtain ⟨e2, he2⟩ : ∃ x, x = errR r2 := ⟨_, rfl⟩
    obtain ⟨p1, hp1⟩ : ∃ x, x = posR r1 := ⟨_, rfl⟩
    obtain ⟨p2, hp2⟩ : ∃ x, x = posR r2 := ⟨_, rfl⟩
    rw [← ht, ← hp1] at C1
    rw [← ht2, ← he2, ← hp2] at C2
    clear MO
    have hm0b : ((m : Int) == 0) = true := by simp [hm0]
    clear ht ht2 he1 he2 hp1 hp2 h7 hm0
    go_enter Try.func4, Try.ntmps4
    go_wp2_with (first
      | (go_at_call 11; refine (tokenBegun11 w).mono ?_; rintro e w1 ⟨rfl, hb⟩; have HB1 := Lib.hid hb; clear hb)
      | (go_at_call 8; (with_reducible refine (C1.out w1 HB1.out).mono ?_); rintro e w2 ⟨rfl, hb⟩; have HB2 := Lib.hid (HB1.out.trans (hb.mono HB1.out.size)); clear hb; have hz2 := HB2.out.size; have HB3 := Lib.hid (HB2.out.alloc hz2 (.cells #[.int .i64 tk.kind, .int .i64 tk.num, .string ⟨tk.text.toArray⟩, .bool tk.not_, .int .i64 tk.least, .int .i64 tk.most, .int .i64 tk.way, .int .i64 tk.fold] 24)); have hn0 := own_new (w2.alloc (.cells #[.int .i64 tk.kind, .int .i64 tk.num, .string ⟨tk.text.toArray⟩, .bool tk.not_, .int .i64 tk.least, .int .i64 tk.most, .int .i64 tk.way, .int .i64 tk.fold] 24)) (w2.heap.size + 1) 3 1 0 #[] (by simp) rfl (by decide); rw [show (World.alloc w2 (.cells #[.int .i64 tk.kind, .int .i64 tk.num, .string ⟨tk.text.toArray⟩, .bool tk.not_, .int .i64 tk.least, .int .i64 tk.most, .int .i64 tk.way, .int .i64 tk.fold] 24)).heap.size = w2.heap.size + 1 from by simp] at hn0; have HN0 := Lib.hid hn0; clear hn0)
      | (at_builtin; refine app_ints (.tmp 23) (.tmp 24) (base := w2.heap.size + 1) (xs := []) (n := 0) (by exact HN0.out) ((HA.out.below HB3.out (Nat.le_refl _)).alloc HB3.out.size _) (by omega) (by simp) rfl rfl rfl rfl ?_; intro v3 w3 hown3 hg3 hat3; have HO3 := Lib.hid hown3; have HX3 := Lib.hid (show Below (w2.heap.size + 1) (w2.alloc (.cells #[.int .i64 tk.kind, .int .i64 tk.num, .string ⟨tk.text.toArray⟩, .bool tk.not_, .int .i64 tk.least, .int .i64 tk.most, .int .i64 tk.way, .int .i64 tk.fold] 24)) w3 from grown_own ((Below.refl _ _).alloc (by simp) _) HN0.out hg3 (Nat.le_refl _) (by simp)); have hx3 := HX3.out.size; simp at hx3; clear hown3 hg3 hat3)
      | (at_builtin; refine app_ints (.tmp 25) (.tmp 26) (base := w2.heap.size + 1) (by exact HO3.out) (HL.out.below (HB3.out.trans (HX3.out.mono (by omega))) (Nat.le_refl _)) (by omega) (by omega) rfl rfl rfl rfl ?_; intro v4 w4 hown4 hg4 hat4; have HX4 := Lib.hid (show Below (w2.heap.size + 1) (w2.alloc (.cells #[.int .i64 tk.kind, .int .i64 tk.num, .string ⟨tk.text.toArray⟩, .bool tk.not_, .int .i64 tk.least, .int .i64 tk.most, .int .i64 tk.way, .int .i64 tk.fold] 24)) w4 from grown_own HX3.out HO3.out hg4 (Nat.le_refl _) (by omega)); have hx4 := HX4.out.size; simp at hx4; obtain ⟨A4, c4, rfl, hc4, -⟩ := own_slice hown4; have HO4 := Lib.hid (show Rds w4 w4.heap.size 1 A4 (n + m) (ints (a ++ l)) by have h := Rds.of_own hown4; simpa using h); clear hown4 hg4 hat4)
      | (go_at_call 8; (with_reducible refine (C2.out w4 A4 c4 (by omega) HO4.out).mono ?_); rintro e w5 ⟨rfl, hb⟩; have hx5 := hb.size; have HX5 := Lib.hid (HX4.out.trans (hb.mono (by omega))); have HO5 := Lib.hid ((HO4.out.below hb (Nat.le_refl _)).more hb.size); have hz5 : w5.heap[w2.heap.size]? = some (.cells #[.int .i64 tk.kind, .int .i64 tk.num, .string ⟨tk.text.toArray⟩, .bool tk.not_, .int .i64 tk.least, .int .i64 tk.most, .int .i64 tk.way, .int .i64 tk.fold] 24) := (HX5.out.block _ (by omega)).trans (heap_alloc_new _ _); obtain ⟨k1, k2, k3, k4, k5, k6, k7, k8⟩ := cells8 hz5; clear hz5 hb; have hlt5 : w2.heap.size < w5.heap.size := by omega)
      | (go_at_call 9; refine (C9.out _ A4 c4 ((HO5.out.alloc (Nat.le_refl _) _).more (by simp))).mono ?_; rintro e w6 ⟨rfl, rfl⟩))
    go_ret
    exact ⟨rfl, (HB3.out.trans (HX5.out.mono (by omega))).alloc (by omega) _⟩
  have hm0b : ((m : Int) == 0) = false := by simpa using hm0
  by_cases hq : q = 0
  · rcases MO.out (by omega) hm0 hq h7 with ⟨h1, h2, h3⟩ | ⟨t, p, h1, h2, h3, h4⟩
    · have h2b : (e1 == 0) = false := by simpa using h2
      have h2c : (e1 != 0) = true := by simpa using h2
      rw [h3] at C2
      rw [h1] at C1 C2
      clear MO h1 h2 h3 he1 h7
      subst hq
      unfold tkR posR at C1 C2
      unfold errR at C2
      simp only at C1 C2
      go_enter Try.func4, Try.ntmps4
      go_wp2_with (first
      | (go_at_call 11; refine (tokenBegun11 w).mono ?_; rintro e w1 ⟨rfl, hb⟩; have HB1 := Lib.hid hb; clear hb)
      | (go_at_call 8; (with_reducible refine (C1.out w1 HB1.out).mono ?_); rintro e w2 ⟨rfl, hb⟩; have HB2 := Lib.hid (HB1.out.trans (hb.mono HB1.out.size)); clear hb; have hz2 := HB2.out.size; have HB3 := Lib.hid (HB2.out.alloc hz2 (.cells #[.int .i64 0, .int .i64 0, .string ⟨#[]⟩, .bool false, .int .i64 0, .int .i64 0, .int .i64 0, .int .i64 0] 24)); have hn0 := own_new (w2.alloc (.cells #[.int .i64 0, .int .i64 0, .string ⟨#[]⟩, .bool false, .int .i64 0, .int .i64 0, .int .i64 0, .int .i64 0] 24)) (w2.heap.size + 1) 3 1 0 #[] (by simp) rfl (by decide); rw [show (World.alloc w2 (.cells #[.int .i64 0, .int .i64 0, .string ⟨#[]⟩, .bool false, .int .i64 0, .int .i64 0, .int .i64 0, .int .i64 0] 24)).heap.size = w2.heap.size + 1 from by simp] at hn0; have HN0 := Lib.hid hn0; clear hn0)
      | (at_builtin; refine app_ints (.tmp 23) (.tmp 24) (base := w2.heap.size + 1) (xs := []) (n := 0) (by exact HN0.out) ((HA.out.below HB3.out (Nat.le_refl _)).alloc HB3.out.size _) (by omega) (by simp) rfl rfl rfl rfl ?_; intro v3 w3 hown3 hg3 hat3; have HO3 := Lib.hid hown3; have HX3 := Lib.hid (show Below (w2.heap.size + 1) (w2.alloc (.cells #[.int .i64 0, .int .i64 0, .string ⟨#[]⟩, .bool false, .int .i64 0, .int .i64 0, .int .i64 0, .int .i64 0] 24)) w3 from grown_own ((Below.refl _ _).alloc (by simp) _) HN0.out hg3 (Nat.le_refl _) (by simp)); have hx3 := HX3.out.size; simp at hx3; clear hown3 hg3 hat3)
      | (at_builtin; refine app_ints (.tmp 25) (.tmp 26) (base := w2.heap.size + 1) (by exact HO3.out) (HL.out.below (HB3.out.trans (HX3.out.mono (by omega))) (Nat.le_refl _)) (by omega) (by omega) rfl rfl rfl rfl ?_; intro v4 w4 hown4 hg4 hat4; have HX4 := Lib.hid (show Below (w2.heap.size + 1) (w2.alloc (.cells #[.int .i64 0, .int .i64 0, .string ⟨#[]⟩, .bool false, .int .i64 0, .int .i64 0, .int .i64 0, .int .i64 0] 24)) w4 from grown_own HX3.out HO3.out hg4 (Nat.le_refl _) (by omega)); have hx4 := HX4.out.size; simp at hx4; obtain ⟨A4, c4, rfl, hc4, -⟩ := own_slice hown4; have HO4 := Lib.hid (show Rds w4 w4.heap.size 1 A4 (n + m) (ints (a ++ l)) by have h := Rds.of_own hown4; simpa using h); clear hown4 hg4 hat4)
      | (go_at_call 8; (with_reducible refine (C2.out w4 A4 c4 (by omega) HO4.out).mono ?_); rintro e w5 ⟨rfl, hb⟩; have hx5 := hb.size; have HX5 := Lib.hid (HX4.out.trans (hb.mono (by omega))); have HO5 := Lib.hid ((HO4.out.below hb (Nat.le_refl _)).more hb.size); have hz5 : w5.heap[w2.heap.size]? = some (.cells #[.int .i64 0, .int .i64 0, .string ⟨#[]⟩, .bool false, .int .i64 0, .int .i64 0, .int .i64 0, .int .i64 0] 24) := (HX5.out.block _ (by omega)).trans (heap_alloc_new _ _); obtain ⟨k1, k2, k3, k4, k5, k6, k7, k8⟩ := cells8 hz5; clear hz5 hb; have hlt5 : w2.heap.size < w5.heap.size := by omega)
      | (go_at_call 9; refine (C9.out _ A4 c4 ((HO5.out.alloc (Nat.le_refl _) _).more (by simp))).mono ?_; rintro e w6 ⟨rfl, rfl⟩))
      go_ret
      exact ⟨rfl, (HB3.out.trans (HX5.out.mono (by omega))).alloc (by omega) _⟩
    · rw [h1] at C1
      rw [h4] at C2
      have he0 : e1 = 0 := by rw [he1, h1]; rfl
      clear MO h1 h4 he1 h7 h7b
      subst hq
      subst he0
      unfold tkR posR at C1 C2
      unfold errR at C2
      simp only at C1 C2
      have h2b : (1 : Int) ≤ p := h2
      go_enter Try.func4, Try.ntmps4
      go_wp2_with (first
      | (go_at_call 11; refine (tokenBegun11 w).mono ?_; rintro e w1 ⟨rfl, hb⟩; have HB1 := Lib.hid hb; clear hb)
      | (go_at_call 8; (with_reducible refine (C1.out w1 HB1.out).mono ?_); rintro e w2 ⟨rfl, hb⟩; have HB2 := Lib.hid (HB1.out.trans (hb.mono HB1.out.size)); clear hb; have hz2 := HB2.out.size; have HB3 := Lib.hid (HB2.out.alloc hz2 (.cells #[.int .i64 t.kind, .int .i64 t.num, .string ⟨t.text.toArray⟩, .bool t.not_, .int .i64 t.least, .int .i64 t.most, .int .i64 t.way, .int .i64 t.fold] 24)); have hn0 := own_new (w2.alloc (.cells #[.int .i64 t.kind, .int .i64 t.num, .string ⟨t.text.toArray⟩, .bool t.not_, .int .i64 t.least, .int .i64 t.most, .int .i64 t.way, .int .i64 t.fold] 24)) (w2.heap.size + 1) 3 1 0 #[] (by simp) rfl (by decide); rw [show (World.alloc w2 (.cells #[.int .i64 t.kind, .int .i64 t.num, .string ⟨t.text.toArray⟩, .bool t.not_, .int .i64 t.least, .int .i64 t.most, .int .i64 t.way, .int .i64 t.fold] 24)).heap.size = w2.heap.size + 1 from by simp] at hn0; have HN0 := Lib.hid hn0; clear hn0)
      | (at_builtin; refine app_ints (.tmp 23) (.tmp 24) (base := w2.heap.size + 1) (xs := []) (n := 0) (by exact HN0.out) ((HA.out.below HB3.out (Nat.le_refl _)).alloc HB3.out.size _) (by omega) (by simp) rfl rfl rfl rfl ?_; intro v3 w3 hown3 hg3 hat3; have HO3 := Lib.hid hown3; have HX3 := Lib.hid (show Below (w2.heap.size + 1) (w2.alloc (.cells #[.int .i64 t.kind, .int .i64 t.num, .string ⟨t.text.toArray⟩, .bool t.not_, .int .i64 t.least, .int .i64 t.most, .int .i64 t.way, .int .i64 t.fold] 24)) w3 from grown_own ((Below.refl _ _).alloc (by simp) _) HN0.out hg3 (Nat.le_refl _) (by simp)); have hx3 := HX3.out.size; simp at hx3; clear hown3 hg3 hat3)
      | (at_builtin; refine app_ints (.tmp 25) (.tmp 26) (base := w2.heap.size + 1) (by exact HO3.out) (HL.out.below (HB3.out.trans (HX3.out.mono (by omega))) (Nat.le_refl _)) (by omega) (by omega) rfl rfl rfl rfl ?_; intro v4 w4 hown4 hg4 hat4; have HX4 := Lib.hid (show Below (w2.heap.size + 1) (w2.alloc (.cells #[.int .i64 t.kind, .int .i64 t.num, .string ⟨t.text.toArray⟩, .bool t.not_, .int .i64 t.least, .int .i64 t.most, .int .i64 t.way, .int .i64 t.fold] 24)) w4 from grown_own HX3.out HO3.out hg4 (Nat.le_refl _) (by omega)); have hx4 := HX4.out.size; simp at hx4; obtain ⟨A4, c4, rfl, hc4, -⟩ := own_slice hown4; have HO4 := Lib.hid (show Rds w4 w4.heap.size 1 A4 (n + m) (ints (a ++ l)) by have h := Rds.of_own hown4; simpa using h); clear hown4 hg4 hat4)
      | (go_at_call 8; (with_reducible refine (C2.out w4 A4 c4 (by omega) HO4.out).mono ?_); rintro e w5 ⟨rfl, hb⟩; have hx5 := hb.size; have HX5 := Lib.hid (HX4.out.trans (hb.mono (by omega))); have HO5 := Lib.hid ((HO4.out.below hb (Nat.le_refl _)).more hb.size); have hz5 : w5.heap[w2.heap.size]? = some (.cells #[.int .i64 t.kind, .int .i64 t.num, .string ⟨t.text.toArray⟩, .bool t.not_, .int .i64 t.least, .int .i64 t.most, .int .i64 t.way, .int .i64 t.fold] 24) := (HX5.out.block _ (by omega)).trans (heap_alloc_new _ _); obtain ⟨k1, k2, k3, k4, k5, k6, k7, k8⟩ := cells8 hz5; clear hz5 hb; have hlt5 : w2.heap.size < w5.heap.size := by omega)
      | (go_at_call 9; refine (C9.out _ A4 c4 ((HO5.out.alloc (Nat.le_refl _) _).more (by simp))).mono ?_; rintro e w6 ⟨rfl, rfl⟩))
      go_ret
      exact ⟨rfl, (HB3.out.trans (HX5.out.mono (by omega))).alloc (by omega) _⟩
  · have hqb : (q == 0) = false := by simpa using hq
    have hqc : (q != 0) = true := by simpa using hq
    obtain ⟨tk, ht⟩ : ∃ tk, tk = tkR r1 := ⟨_, rfl⟩
    obtain ⟨t2, ht2⟩ : ∃ tk, tk = tkR r2 := ⟨_, rfl⟩
    obtain ⟨e2, he2⟩ : ∃ x, x = errR r2 := ⟨_, rfl⟩
    obtain ⟨p1, hp1⟩ : ∃ x, x = posR r1 := ⟨_, rfl⟩
    obtain ⟨p2, hp2⟩ : ∃ x, x = posR r2 := ⟨_, rfl⟩
    rw [← ht, ← hp1] at C1
    rw [← ht2, ← he2, ← hp2] at C2
    clear MO
    clear ht ht2 he1 he2 hp1 hp2 h7 hq
    go_enter Try.func4, Try.ntmps4
    go_wp2_with (first
      | (go_at_call 11; refine (tokenBegun11 w).mono ?_; rintro e w1 ⟨rfl, hb⟩; have HB1 := Lib.hid hb; clear hb)
      | (go_at_call 8; (with_reducible refine (C1.out w1 HB1.out).mono ?_); rintro e w2 ⟨rfl, hb⟩; have HB2 := Lib.hid (HB1.out.trans (hb.mono HB1.out.size)); clear hb; have hz2 := HB2.out.size; have HB3 := Lib.hid (HB2.out.alloc hz2 (.cells #[.int .i64 tk.kind, .int .i64 tk.num, .string ⟨tk.text.toArray⟩, .bool tk.not_, .int .i64 tk.least, .int .i64 tk.most, .int .i64 tk.way, .int .i64 tk.fold] 24)); have hn0 := own_new (w2.alloc (.cells #[.int .i64 tk.kind, .int .i64 tk.num, .string ⟨tk.text.toArray⟩, .bool tk.not_, .int .i64 tk.least, .int .i64 tk.most, .int .i64 tk.way, .int .i64 tk.fold] 24)) (w2.heap.size + 1) 3 1 0 #[] (by simp) rfl (by decide); rw [show (World.alloc w2 (.cells #[.int .i64 tk.kind, .int .i64 tk.num, .string ⟨tk.text.toArray⟩, .bool tk.not_, .int .i64 tk.least, .int .i64 tk.most, .int .i64 tk.way, .int .i64 tk.fold] 24)).heap.size = w2.heap.size + 1 from by simp] at hn0; have HN0 := Lib.hid hn0; clear hn0)
      | (at_builtin; refine app_ints (.tmp 23) (.tmp 24) (base := w2.heap.size + 1) (xs := []) (n := 0) (by exact HN0.out) ((HA.out.below HB3.out (Nat.le_refl _)).alloc HB3.out.size _) (by omega) (by simp) rfl rfl rfl rfl ?_; intro v3 w3 hown3 hg3 hat3; have HO3 := Lib.hid hown3; have HX3 := Lib.hid (show Below (w2.heap.size + 1) (w2.alloc (.cells #[.int .i64 tk.kind, .int .i64 tk.num, .string ⟨tk.text.toArray⟩, .bool tk.not_, .int .i64 tk.least, .int .i64 tk.most, .int .i64 tk.way, .int .i64 tk.fold] 24)) w3 from grown_own ((Below.refl _ _).alloc (by simp) _) HN0.out hg3 (Nat.le_refl _) (by simp)); have hx3 := HX3.out.size; simp at hx3; clear hown3 hg3 hat3)
      | (at_builtin; refine app_ints (.tmp 25) (.tmp 26) (base := w2.heap.size + 1) (by exact HO3.out) (HL.out.below (HB3.out.trans (HX3.out.mono (by omega))) (Nat.le_refl _)) (by omega) (by omega) rfl rfl rfl rfl ?_; intro v4 w4 hown4 hg4 hat4; have HX4 := Lib.hid (show Below (w2.heap.size + 1) (w2.alloc (.cells #[.int .i64 tk.kind, .int .i64 tk.num, .string ⟨tk.text.toArray⟩, .bool tk.not_, .int .i64 tk.least, .int .i64 tk.most, .int .i64 tk.way, .int .i64 tk.fold] 24)) w4 from grown_own HX3.out HO3.out hg4 (Nat.le_refl _) (by omega)); have hx4 := HX4.out.size; simp at hx4; obtain ⟨A4, c4, rfl, hc4, -⟩ := own_slice hown4; have HO4 := Lib.hid (show Rds w4 w4.heap.size 1 A4 (n + m) (ints (a ++ l)) by have h := Rds.of_own hown4; simpa using h); clear hown4 hg4 hat4)
      | (go_at_call 8; (with_reducible refine (C2.out w4 A4 c4 (by omega) HO4.out).mono ?_); rintro e w5 ⟨rfl, hb⟩; have hx5 := hb.size; have HX5 := Lib.hid (HX4.out.trans (hb.mono (by omega))); have HO5 := Lib.hid ((HO4.out.below hb (Nat.le_refl _)).more hb.size); have hz5 : w5.heap[w2.heap.size]? = some (.cells #[.int .i64 tk.kind, .int .i64 tk.num, .string ⟨tk.text.toArray⟩, .bool tk.not_, .int .i64 tk.least, .int .i64 tk.most, .int .i64 tk.way, .int .i64 tk.fold] 24) := (HX5.out.block _ (by omega)).trans (heap_alloc_new _ _); obtain ⟨k1, k2, k3, k4, k5, k6, k7, k8⟩ := cells8 hz5; clear hz5 hb; have hlt5 : w2.heap.size < w5.heap.size := by omega)
      | (go_at_call 9; refine (C9.out _ A4 c4 ((HO5.out.alloc (Nat.le_refl _) _).more (by simp))).mono ?_; rintro e w6 ⟨rfl, rfl⟩))
    go_ret
    exact ⟨rfl, (HB3.out.trans (HX5.out.mono (by omega))).alloc (by omega) _⟩
end Go.Proofs.Ytmjlmjlkghpknaa
