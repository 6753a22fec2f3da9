/- ContainsFunc at ranges for any test; In of the program; InClass and ClassOf of the reference: walked. -/
import Derived.Test.YtehlijnhhbdbhaaFoldQ
namespace Go.Proofs.Ytehlijnhhbdbhaa
open Go.RowKit
set_option linter.unusedVariables false
theorem any_snoc (a : List (Int × Int)) (f : Int × Int → Bool) (k : Nat) (hk : k < a.length) (h : (a.take k).any f = false) (hr : f a[k] = false) : (a.take (k + 1)).any f = false := by
  rw [take_snoc' a k hk, List.any_append, h]; simp [hr]
set_option maxHeartbeats 1000000 in
theorem index132g (f : Int × Int → Bool) (g : Nat) (cb : Array Value) (a : List (Int × Int)) (A : Option Addr) (n c : Nat) (w : World) (hn : n ≤ maxLen) (ha : Rds w w.heap.size 2 A n (rngs a))
    (eg : ∀ args w, (callFunc g args).run Try.prog w = .ok (.enter g args) w)
    (hcl : ∀ (r : Int × Int) (w' : World), Below w.heap.size w w' → Calls Try.prog g (#[.agg #[.int .i64 r.1, .int .i64 r.2]] ++ cb) w' fun e w'' => e = .returned (.bool (f r)) ∧ Below w'.heap.size w' w'') :
    Calls Try.prog 132 #[.slice A n c, .func (.func g) #[] cb] w fun e w' => (∃ i : Int, e = .returned (.int .i64 i) ∧ decide (0 ≤ i) = a.any f) ∧ Below w.heap.size w w' := by
  have HA := Lib.hid ha.rngs_len
  have HCL := Lib.hid hcl
  clear hcl
  unfold maxLen at hn
  go_enter Try.func132, Try.ntmps132
  go_wp2_with fail
  go_loopw [8] (fun i wr => ∃ k : Nat, k ≤ n ∧ i = .int .i64 k ∧ (a.take k).any f = false ∧ Below w.heap.size w wr) (fun i _ => n - (intOf i).toNat)
  case atStart => exact ⟨0, Nat.zero_le _, rfl, by simp, Below.refl _ _⟩
  case round =>
    obtain ⟨k, hk, rfl, hall, hB⟩ := hrel
    have HALL := Lib.hid hall
    clear hall
    by_cases hlt : k < n
    · obtain ⟨b1, off1, hl1, hA, hb1, hc1, hd1⟩ := (ha.below hB (Nat.le_refl _)).rng_at hlt
      subst hA
      have HS := Lib.hid (any_snoc a f k hl1 HALL.out)
      have HBAD := Lib.hid (fun (h : f a[k] = true) => show a.any f = true from List.any_eq_true.2 ⟨a[k], List.getElem_mem hl1, h⟩)
      obtain ⟨p, hp⟩ : ∃ p, p = a[k] := ⟨_, rfl⟩
      rw [← hp] at hc1 hd1 HS HBAD
      clear hp
      cases hok : f p
      · have HOK := Lib.hid hok
        clear hok
        go_wp2_with fail
        refine (HCL.out p wr hB).mono ?_
        rintro e w1 ⟨rfl, hb⟩
        rw [HOK.out]
        go_wp2
        go_roundw
        case rel => exact ⟨k + 1, by omega, by go_num, HS.out HOK.out, hB.trans (hb.mono hB.size)⟩
        case measure => simp [intOf]; omega
      · have HOK := Lib.hid hok
        clear hok
        go_wp2_with fail
        refine (HCL.out p wr hB).mono ?_
        rintro e w1 ⟨rfl, hb⟩
        rw [HOK.out]
        go_wp2
        go_ret
        exact ⟨⟨k, rfl, by rw [HBAD.out HOK.out]; simp⟩, hB.trans (hb.mono hB.size)⟩
    · obtain rfl : k = n := by omega
      go_wp2
      go_ret
      refine ⟨⟨-1, rfl, ?_⟩, hB⟩
      have := HALL.out
      rw [List.take_of_length_le (by rw [HA.out]; exact Nat.le_refl _)] at this
      rw [this]; rfl
set_option maxHeartbeats 1000000 in
theorem contains99g (f : Int × Int → Bool) (g : Nat) (cb : Array Value) (a : List (Int × Int)) (A : Option Addr) (n c : Nat) (w : World) (hn : n ≤ maxLen) (ha : Rds w w.heap.size 2 A n (rngs a))
    (eg : ∀ args w, (callFunc g args).run Try.prog w = .ok (.enter g args) w)
    (hcl : ∀ (r : Int × Int) (w' : World), Below w.heap.size w w' → Calls Try.prog g (#[.agg #[.int .i64 r.1, .int .i64 r.2]] ++ cb) w' fun e w'' => e = .returned (.bool (f r)) ∧ Below w'.heap.size w' w'') :
    Calls Try.prog 99 #[.slice A n c, .func (.func g) #[] cb] w fun e w' => e = .returned (.bool (a.any f)) ∧ Below w.heap.size w w' := by
  have C := Lib.hid (index132g f g cb a A n c w hn ha eg hcl)
  clear hcl eg
  go_enter Try.func99, Try.ntmps99
  go_wp2_with fail
  refine C.out.mono ?_
  rintro e w' ⟨⟨i, rfl, hi⟩, hb⟩
  have HI := Lib.hid hi
  clear hi
  go_wp2
  go_ret
  exact ⟨ret_bool HI.out, hb⟩
set_option maxHeartbeats 1000000 in
theorem clo110 (x y p : Int) (b : Nat) (w : World) (hlt : b < w.heap.size) (hb : w.cell? ⟨b, 0, none⟩ = some (.int .i64 p)) :
    Calls Try.prog 110 #[.agg #[.int .i64 x, .int .i64 y], .pointer (some ⟨b, 0, none⟩)] w fun e w' => e = .returned (.bool (decide (x ≤ p) && decide (p ≤ y))) ∧ Below w.heap.size w w' := by
  go_enter Try.func110, Try.ntmps110
  go_wp2
  all_goals (go_ret; exact ⟨ret_bool (by simp_all; try omega), by go_grown⟩)
set_option maxRecDepth 100000 in
set_option maxHeartbeats 2000000 in
theorem in65 (s : ByteArray) (l : List (Int × Int)) (p : Int) (w : World) (h : cls s.toList = some l) (h0 : 0 ≤ p) (h1 : p ≤ 1114111) :
    Calls Try.prog 65 #[.string s, .int .i64 p] w fun e w' => e = .returned (.tuple #[.bool (memB l p), .int .i64 0]) ∧ Below w.heap.size w w' := by
  have C := Lib.hid (fun w => class_some s l w h)
  have HP := Lib.hid (show (decide (0 ≤ p) && decide (p ≤ 1114111)) = true by simp; omega)
  have eg : ∀ args w, (callFunc 110 args).run Try.prog w = .ok (.enter 110 args) w := enters_of Try.func110 (by kernel_rfl) rfl
  have EG := Lib.hid eg
  clear eg h h0 h1
  go_enter Try.func65, Try.ntmps65
  go_wp2_with fail
  refine (C.out _).mono ?_
  rintro e w1 ⟨out, A, n, c, rfl, hs, hl, hown, hb⟩
  have HS := Lib.hid hs
  have R := Lib.hid (Rds.of_own hown)
  obtain ⟨_, _, hv, q1, q2⟩ := own_slice hown
  injection hv with e1 e2 e3
  subst e1 e3
  clear e2 hs hown hl
  have hbx : w1.cell? ⟨w.heap.size, 0, none⟩ = some (.int .i64 p) := by rw [hb.cell (p := ⟨w.heap.size, 0, none⟩) (by simp)]; simp
  have hs1 := hb.size
  simp at hs1
  have B0 : Below w.heap.size w w1 := Below.trans (by go_grown) (hb.mono (by simp))
  go_wp2_with fail
  refine (isPoint107 p true _ HP.out).mono ?_
  rintro e w' ⟨rfl, rfl⟩
  go_wp2_with fail
  refine (contains99g (fun r => decide (r.1 ≤ p) && decide (p ≤ r.2)) 110 #[.pointer (some ⟨w.heap.size, 0, none⟩)] out A n c w1 (by omega) R.out EG.out
    (fun r w' hbw => clo110 r.1 r.2 p w.heap.size w' (by have := hbw.size; omega) (by rw [hbw.cell (p := ⟨w.heap.size, 0, none⟩) (by simp; omega)]; exact hbx))).mono ?_
  rintro e w2 ⟨rfl, hb2⟩
  go_wp2
  go_ret2
  refine ⟨?_, B0.trans (hb2.mono (by omega))⟩
  rw [show out.any (fun r => decide (r.1 ≤ p) && decide (p ≤ r.2)) = memB l p from by rw [Bool.eq_iff_iff, memB_iff, ← HS.out.2 p, ← memB_iff]; rfl]
  rfl
set_option maxRecDepth 100000 in
set_option maxHeartbeats 2000000 in
theorem in65_range (s : ByteArray) (l : List (Int × Int)) (p : Int) (w : World) (h : cls s.toList = some l) (hp : ¬ (0 ≤ p ∧ p ≤ 1114111)) :
    Calls Try.prog 65 #[.string s, .int .i64 p] w fun e w' => e = .returned (.tuple #[.bool false, .int .i64 3]) ∧ Below w.heap.size w w' := by
  have C := Lib.hid (fun w => class_some s l w h)
  have HP := Lib.hid (show (decide (0 ≤ p) && decide (p ≤ 1114111)) = false by rw [Bool.eq_false_iff]; simp; omega)
  clear h hp
  go_enter Try.func65, Try.ntmps65
  go_wp2_with fail
  refine (C.out _).mono ?_
  rintro e w1 ⟨out, A, n, c, rfl, hs, hl, hown, hb⟩
  have hbx : w1.cell? ⟨w.heap.size, 0, none⟩ = some (.int .i64 p) := by rw [hb.cell (p := ⟨w.heap.size, 0, none⟩) (by simp)]; simp
  have hs1 := hb.size
  simp at hs1
  have B0 : Below w.heap.size w w1 := Below.trans (by go_grown) (hb.mono (by simp))
  clear hs hown hl
  go_wp2_with fail
  refine (isPoint107 p false _ HP.out).mono ?_
  rintro e w' ⟨rfl, rfl⟩
  go_wp2
  go_ret2
  exact ⟨rfl, B0⟩
set_option maxRecDepth 100000 in
set_option maxHeartbeats 2000000 in
theorem in65_none (s : ByteArray) (p : Int) (w : World) (h : cls s.toList = none) :
    Calls Try.prog 65 #[.string s, .int .i64 p] w fun e w' => e = .returned (.tuple #[.bool false, .int .i64 5]) ∧ Below w.heap.size w w' := by
  have C := Lib.hid (fun w => class_none s w h)
  clear h
  go_enter Try.func65, Try.ntmps65
  go_wp2_with fail
  refine (C.out _).mono ?_
  rintro e w1 ⟨rfl, rfl⟩
  go_wp2
  go_ret2
  exact ⟨rfl, by go_grown⟩
/-! ClassOf -/
def tailOk (l : List (Int × Int)) : Bool := l.all okR && l.all fun r => decide (r.2 < 13000) || (decide (r.1 ≤ 13000) && r.2 == 1114111)
theorem tail_of {l : List (Int × Int)} (h : tailOk l = true) : Tail (memB l) := by
  simp only [tailOk, Bool.and_eq_true, List.all_eq_true] at h
  obtain ⟨h1, h2⟩ := h
  constructor
  · intro q q0 q1
    rw [Bool.eq_iff_iff, memB_iff, memB_iff]
    constructor
    · rintro ⟨r, hr, a, b⟩
      refine ⟨r, hr, ?_⟩
      have := h2 r hr
      simp at this
      omega
    · rintro ⟨r, hr, a, b⟩
      refine ⟨r, hr, ?_⟩
      have := h2 r hr
      simp at this
      omega
  · intro q hq
    obtain ⟨r, hr, a, b⟩ := (memB_iff _ _).1 hq
    have := (okR_iff r).1 (h1 r hr)
    omega
theorem cls_tail {t : List UInt8} {l : List (Int × Int)} (h : cls t = some l) : Tail (memB l) := by
  unfold cls at h
  by_cases e : t = [97, 110, 121]
  · rw [if_pos e] at h; injection h with h; subst h; exact tail_of (by decide)
  rw [if_neg e] at h
  clear e
  by_cases e : t = [97, 115, 99, 105, 105]
  · rw [if_pos e] at h; injection h with h; subst h; exact tail_of (by decide)
  rw [if_neg e] at h
  clear e
  by_cases e : t = [99, 110, 116, 114, 108]
  · rw [if_pos e] at h; injection h with h; subst h; exact tail_of (by decide)
  rw [if_neg e] at h
  clear e
  by_cases e : t = [100, 105, 103, 105, 116]
  · rw [if_pos e] at h; injection h with h; subst h; exact tail_of (by decide)
  rw [if_neg e] at h
  clear e
  by_cases e : t = [120, 100, 105, 103, 105, 116]
  · rw [if_pos e] at h; injection h with h; subst h; exact tail_of (by decide)
  rw [if_neg e] at h
  clear e
  by_cases e : t = [98, 108, 97, 110, 107]
  · rw [if_pos e] at h; injection h with h; subst h; exact tail_of (by decide)
  rw [if_neg e] at h
  clear e
  by_cases e : t = [115, 112, 97, 99, 101]
  · rw [if_pos e] at h; injection h with h; subst h; exact tail_of (by decide)
  rw [if_neg e] at h
  clear e
  by_cases e : t = [112, 117, 110, 99, 116]
  · rw [if_pos e] at h; injection h with h; subst h; exact tail_of (by decide)
  rw [if_neg e] at h
  clear e
  by_cases e : t = [97, 108, 112, 104, 97]
  · rw [if_pos e] at h; injection h with h; subst h; exact tail_of (by decide)
  rw [if_neg e] at h
  clear e
  by_cases e : t = [117, 112, 112, 101, 114]
  · rw [if_pos e] at h; injection h with h; subst h; exact tail_of (by decide)
  rw [if_neg e] at h
  clear e
  by_cases e : t = [108, 111, 119, 101, 114]
  · rw [if_pos e] at h; injection h with h; subst h; exact tail_of (by decide)
  rw [if_neg e] at h
  clear e
  by_cases e : t = [97, 108, 110, 117, 109]
  · rw [if_pos e] at h; injection h with h; subst h; exact tail_of (by decide)
  rw [if_neg e] at h
  clear e
  by_cases e : t = [119, 111, 114, 100]
  · rw [if_pos e] at h; injection h with h; subst h; exact tail_of (by decide)
  rw [if_neg e] at h
  clear e
  by_cases e : t = [103, 114, 97, 112, 104]
  · rw [if_pos e] at h; injection h with h; subst h; exact tail_of (by decide)
  rw [if_neg e] at h
  clear e
  cases h
theorem inClass66 (s : ByteArray) (l : List (Int × Int)) (p : Int) (w : World) (h : cls s.toList = some l) : Calls Try.prog 66 #[.string s, .int .i64 p] w fun e w' => e = .returned (.bool (memB l p)) ∧ w = w' := by
  unfold cls at h
  by_cases e : s.toList = [97, 110, 121]
  · rw [if_pos e] at h; injection h with h; subst h; obtain rfl := lit_eq e; exact inC_memB (inC_any p w)
  rw [if_neg e] at h
  clear e
  by_cases e : s.toList = [97, 115, 99, 105, 105]
  · rw [if_pos e] at h; injection h with h; subst h; obtain rfl := lit_eq e; exact inC_memB (inC_ascii p w)
  rw [if_neg e] at h
  clear e
  by_cases e : s.toList = [99, 110, 116, 114, 108]
  · rw [if_pos e] at h; injection h with h; subst h; obtain rfl := lit_eq e; exact inC_memB (inC_cntrl p w)
  rw [if_neg e] at h
  clear e
  by_cases e : s.toList = [100, 105, 103, 105, 116]
  · rw [if_pos e] at h; injection h with h; subst h; obtain rfl := lit_eq e; exact inC_memB (inC_digit p w)
  rw [if_neg e] at h
  clear e
  by_cases e : s.toList = [120, 100, 105, 103, 105, 116]
  · rw [if_pos e] at h; injection h with h; subst h; obtain rfl := lit_eq e; exact inC_memB (inC_xdigit p w)
  rw [if_neg e] at h
  clear e
  by_cases e : s.toList = [98, 108, 97, 110, 107]
  · rw [if_pos e] at h; injection h with h; subst h; obtain rfl := lit_eq e; exact inC_memB (inC_blank p w)
  rw [if_neg e] at h
  clear e
  by_cases e : s.toList = [115, 112, 97, 99, 101]
  · rw [if_pos e] at h; injection h with h; subst h; obtain rfl := lit_eq e; exact inC_memB (inC_space p w)
  rw [if_neg e] at h
  clear e
  by_cases e : s.toList = [112, 117, 110, 99, 116]
  · rw [if_pos e] at h; injection h with h; subst h; obtain rfl := lit_eq e; exact inC_memB (inC_punct p w)
  rw [if_neg e] at h
  clear e
  by_cases e : s.toList = [97, 108, 112, 104, 97]
  · rw [if_pos e] at h; injection h with h; subst h; obtain rfl := lit_eq e; exact inC_memB (inC_alpha p w)
  rw [if_neg e] at h
  clear e
  by_cases e : s.toList = [117, 112, 112, 101, 114]
  · rw [if_pos e] at h; injection h with h; subst h; obtain rfl := lit_eq e; exact inC_memB (inC_upper p w)
  rw [if_neg e] at h
  clear e
  by_cases e : s.toList = [108, 111, 119, 101, 114]
  · rw [if_pos e] at h; injection h with h; subst h; obtain rfl := lit_eq e; exact inC_memB (inC_lower p w)
  rw [if_neg e] at h
  clear e
  by_cases e : s.toList = [97, 108, 110, 117, 109]
  · rw [if_pos e] at h; injection h with h; subst h; obtain rfl := lit_eq e; exact inC_memB (inC_alnum p w)
  rw [if_neg e] at h
  clear e
  by_cases e : s.toList = [119, 111, 114, 100]
  · rw [if_pos e] at h; injection h with h; subst h; obtain rfl := lit_eq e; exact inC_memB (inC_word p w)
  rw [if_neg e] at h
  clear e
  by_cases e : s.toList = [103, 114, 97, 112, 104]
  · rw [if_pos e] at h; injection h with h; subst h; obtain rfl := lit_eq e; exact inC_memB (inC_graph p w)
  rw [if_neg e] at h
  clear e
  cases h
set_option maxHeartbeats 1000000 in
theorem clo106 (s : ByteArray) (l : List (Int × Int)) (p : Int) (b : Nat) (w : World) (h : cls s.toList = some l) (hb : w.cell? ⟨b, 0, none⟩ = some (.string s)) :
    Calls Try.prog 106 #[.int .i64 p, .pointer (some ⟨b, 0, none⟩)] w fun e w' => e = .returned (.bool (memB l p)) ∧ ∃ q, w' = w.drewN q := by
  have C := Lib.hid (inClass66 s l p w h)
  clear h
  go_enter Try.func106, Try.ntmps106
  go_wp2_with fail
  refine C.out.mono ?_
  rintro e w' ⟨rfl, rfl⟩
  go_wp2
  go_ret
  exact ⟨rfl, 0, rfl⟩
set_option maxHeartbeats 1000000 in
theorem classOf59 (s : ByteArray) (l : List (Int × Int)) (w : World) (h : cls s.toList = some l) :
    Calls Try.prog 59 #[.string s] w fun e w' => ∃ out, IsSet out (mem l) ∧ out.length ≤ 13001 ∧ OwnRngs w out e w' := by
  have HT := Lib.hid (cls_tail h)
  have H := Lib.hid h
  have eg : ∀ args w, (callFunc 106 args).run Try.prog w = .ok (.enter 106 args) w := enters_of Try.func106 (by kernel_rfl) rfl
  have EG := Lib.hid eg
  clear eg h
  go_enter Try.func59, Try.ntmps59
  go_wp2_with fail
  refine (ranges105 (memB l) 106 #[.pointer (some ⟨w.heap.size, 0, none⟩)] _ HT.out EG.out (fun p w' hbw => clo106 s l p w.heap.size w' H.out (by rw [hbw.cell (p := ⟨w.heap.size, 0, none⟩) (by simp)]; simp))).mono ?_
  rintro e w1 ⟨out, hs, hl, A, n, c, rfl, hown, hb⟩
  go_wp2
  go_ret
  exact ⟨out, ⟨hs.1, fun p => (hs.2 p).trans (memB_iff l p)⟩, hl, ownRngs_of rfl (own_mono hown (by simp)) (Below.trans (by go_grown) (hb.mono (by simp)))⟩
end Go.Proofs.Ytehlijnhhbdbhaa
