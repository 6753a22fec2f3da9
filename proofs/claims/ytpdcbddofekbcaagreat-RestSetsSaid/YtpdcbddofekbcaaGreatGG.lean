/-
  A row of one type beside a row of another; a test over ranges by any closure: walked. fits, isByte of the program, goes of the law: walked.
-/
import Derived.Test.YtpdcbddofekbcaaGreatSplW
import Derived.Test.YtpdcbddofekbcaaGreatSetF
import Derived.Test.YtpdcbddofekbcaaGreatGF
import Derived.Shelf.Abstract
namespace Go.Proofs.YtpdcbddofekbcaaGreat
open Go.RowKit
set_option linter.unusedVariables false
theorem any_snoc (a : List (Int × Int)) (f : Int × Int → Bool) (k : Nat) (hk : k < a.length) (h : (a.take k).any f = false) (hr : f a[k] = false) : (a.take (k + 1)).any f = false := by
  rw [take_snoc' a k hk, List.any_append, h]; simp [hr]
set_option maxHeartbeats 1000000 in
theorem index67g (f : Int × Int → Bool) (g : Nat) (cb : Array Value) (a : List (Int × Int)) (A : Option Addr) (n c : Nat) (w : World) (hn : n ≤ maxLen) (ha : Rds w w.heap.size 2 A n (rngs a))
    (eg : ∀ args w, (callFunc g args).run Tryz.prog w = .ok (.enter g args) w)
    (hcl : ∀ (r : Int × Int) (w' : World), Below w.heap.size w w' → Calls Tryz.prog g (#[.agg #[.int .i64 r.1, .int .i64 r.2]] ++ cb) w' fun e w'' => e = .returned (.bool (f r)) ∧ Below w'.heap.size w' w'') :
    Calls Tryz.prog 67 #[.slice A n c, .func (.func g) #[] cb] w fun e w' => (∃ i : Int, e = .returned (.int .i64 i) ∧ decide (0 ≤ i) = a.any f) ∧ Below w.heap.size w w' := by
  have HA := Lib.hid ha.rngs_len
  have HCL := Lib.hid hcl
  clear hcl
  unfold maxLen at hn
  go_enter Tryz.func67, Tryz.ntmps67
  go_wp2_with fail
  go_loopw [8] (fun i wr => ∃ k : Nat, k ≤ n ∧ i = .int .i64 k ∧ (a.take k).any f = false ∧ Below w.heap.size w wr) (fun i _ => n - (intOf i).toNat)
  case atStart => exact ⟨0, Nat.zero_le _, rfl, by simp, Below.refl _ _⟩
  case round =>
    obtain ⟨k, hk, rfl, hall, hB⟩ := hrel
    have HALL := Lib.hid hall
    clear hall
    by_cases hlt : k < n
    · obtain ⟨b1, off1, hl1, hA, hb1, hc1, hd1⟩ := (ha.below hB (Nat.le_refl _)).rng_at hlt
      subst hA
      have HS := Lib.hid (any_snoc a f k hl1 HALL.out)
      have HBAD := Lib.hid (fun (h : f a[k] = true) => show a.any f = true from List.any_eq_true.2 ⟨a[k], List.getElem_mem hl1, h⟩)
      obtain ⟨p, hp⟩ : ∃ p, p = a[k] := ⟨_, rfl⟩
      rw [← hp] at hc1 hd1 HS HBAD
      clear hp
      cases hok : f p
      · have HOK := Lib.hid hok
        clear hok
        go_wp2_with fail
        refine (HCL.out p wr hB).mono ?_
        rintro e w1 ⟨rfl, hb⟩
        rw [HOK.out]
        go_wp2
        go_roundw
        case rel => exact ⟨k + 1, by omega, by go_num, HS.out HOK.out, hB.trans (hb.mono hB.size)⟩
        case measure => simp [intOf]; omega
      · have HOK := Lib.hid hok
        clear hok
        go_wp2_with fail
        refine (HCL.out p wr hB).mono ?_
        rintro e w1 ⟨rfl, hb⟩
        rw [HOK.out]
        go_wp2
        go_ret
        exact ⟨⟨k, rfl, by rw [HBAD.out HOK.out]; simp⟩, hB.trans (hb.mono hB.size)⟩
    · obtain rfl : k = n := by omega
      go_wp2
      go_ret
      refine ⟨⟨-1, rfl, ?_⟩, hB⟩
      have := HALL.out
      rw [List.take_of_length_le (by rw [HA.out]; exact Nat.le_refl _)] at this
      rw [this]; rfl
set_option maxHeartbeats 1000000 in
theorem contains99g (f : Int × Int → Bool) (g : Nat) (cb : Array Value) (a : List (Int × Int)) (A : Option Addr) (n c : Nat) (w : World) (hn : n ≤ maxLen) (ha : Rds w w.heap.size 2 A n (rngs a))
    (eg : ∀ args w, (callFunc g args).run Tryz.prog w = .ok (.enter g args) w)
    (hcl : ∀ (r : Int × Int) (w' : World), Below w.heap.size w w' → Calls Tryz.prog g (#[.agg #[.int .i64 r.1, .int .i64 r.2]] ++ cb) w' fun e w'' => e = .returned (.bool (f r)) ∧ Below w'.heap.size w' w'') :
    Calls Tryz.prog 41 #[.slice A n c, .func (.func g) #[] cb] w fun e w' => e = .returned (.bool (a.any f)) ∧ Below w.heap.size w w' := by
  have C := Lib.hid (index67g f g cb a A n c w hn ha eg hcl)
  clear hcl eg
  go_enter Tryz.func41, Tryz.ntmps41
  go_wp2_with fail
  refine C.out.mono ?_
  rintro e w' ⟨⟨i, rfl, hi⟩, hb⟩
  have HI := Lib.hid hi
  clear hi
  go_wp2
  go_ret
  exact ⟨ret_bool HI.out, hb⟩
end Go.Proofs.YtpdcbddofekbcaaGreat
namespace Go.Proofs.YtpdcbddofekbcaaGreat
open Go.RowKit
set_option linter.unusedVariables false
def byt (s : ByteArray) (k : Nat) : Int := if h : k < s.size then (s[k].toNat : Int) else 0
theorem byt_rng (s : ByteArray) (k : Nat) : 0 ≤ byt s k ∧ byt s k < 256 := by
  unfold byt
  split
  · have := UInt8.toNat_lt s[k]; omega
  · omega
theorem byt_wrap (s : ByteArray) (k : Nat) (h : k < s.size) : wrap64 ((s[k].toNat : Nat) : Int) = byt s k := by
  have := UInt8.toNat_lt s[k]
  rw [byt, dif_pos h]
  exact IntWalk.wrap64_in ((s[k].toNat : Nat) : Int) ⟨by omega, by omega⟩
def inR (r : Int × Int) (c : Int) : Bool := decide (r.1 ≤ c) && decide (c ≤ r.2)
/-- the first k of the road let the first k bytes through -/
def along (r : List (Int × Int)) (s : ByteArray) (k : Nat) : Prop := ∀ i (h : i < r.length), i < k → inR r[i] (byt s i) = true
theorem along_snoc {r : List (Int × Int)} {s : ByteArray} {k : Nat} (h : along r s k) (hk : k < r.length) (hr : inR r[k] (byt s k) = true) : along r s (k + 1) := fun i hi hik => by
  by_cases e : i = k
  · subst e; exact hr
  · exact h i hi (by omega)
theorem along_not {r : List (Int × Int)} {s : ByteArray} {k : Nat} (hk : k < r.length) (hr : inR r[k] (byt s k) = false) : ¬ along r s r.length := fun h => by
  rw [h k hk hk] at hr; cases hr
instance (r : List (Int × Int)) (s : ByteArray) (k : Nat) : Decidable (along r s k) := by unfold along; infer_instance
def fitsB (r : List (Int × Int)) (s : ByteArray) : Bool := decide (r.length ≤ s.size) && decide (along r s r.length)
theorem fitsB_no1 {r : List (Int × Int)} {s : ByteArray} (h : s.size < r.length) : fitsB r s = false := by unfold fitsB; rw [decide_eq_false (by omega)]; rfl
theorem fitsB_no2 {r : List (Int × Int)} {s : ByteArray} (h : ¬ along r s r.length) : fitsB r s = false := by unfold fitsB; rw [decide_eq_false h]; simp
theorem fitsB_yes {r : List (Int × Int)} {s : ByteArray} (h : r.length ≤ s.size) (k : along r s r.length) : fitsB r s = true := by unfold fitsB; rw [decide_eq_true h, decide_eq_true k]; rfl
set_option maxRecDepth 100000 in
set_option maxHeartbeats 1000000 in
theorem fits102 (r : List (Int × Int)) (s : ByteArray) (A : Option Addr) (n c : Nat) (w : World) (hn : n ≤ maxLen) (ha : Rds w w.heap.size 2 A n (rngs r)) :
    Calls Tryz.prog 44 #[.slice A n c, .string s] w fun e w' => e = .returned (.bool (fitsB r s)) ∧ Below w.heap.size w w' := by
  have HA := Lib.hid ha.rngs_len
  unfold maxLen at hn
  go_enter Tryz.func44, Tryz.ntmps44
  by_cases hsz : s.size < n
  · have h1 : (s.size : Int) < (n : Int) := by omega
    go_wp2
    go_ret
    exact ⟨ret_bool (fitsB_no1 (by rw [HA.out]; exact hsz)).symm, Below.refl _ _⟩
  · have h1 : ¬ (s.size : Int) < (n : Int) := by omega
    go_wp2_with fail
    go_loopw [15] (fun i wr => ∃ k : Nat, k ≤ n ∧ i = .int .i64 k ∧ along r s k ∧ Below w.heap.size w wr) (fun i _ => n - (intOf i).toNat)
    case atStart => exact ⟨0, Nat.zero_le _, rfl, fun i _ h => by omega, Below.refl _ _⟩
    case round =>
      obtain ⟨k, hk, rfl, hall, hB⟩ := hrel
      have HALL := Lib.hid hall
      clear hall
      by_cases hlt : k < n
      · obtain ⟨b1, off1, hl1, hA, hb1, hc1, hd1⟩ := (ha.below hB (Nat.le_refl _)).rng_at hlt
        subst hA
        have HS := Lib.hid (fun h => along_snoc HALL.out hl1 h)
        have HN := Lib.hid (fun h => along_not (s := s) hl1 h)
        obtain ⟨p, hp⟩ : ∃ p, p = r[k] := ⟨_, rfl⟩
        rw [← hp] at hc1 hd1 HS HN
        clear hp
        obtain ⟨x, y⟩ := p
        simp only at hc1 hd1
        have hks : k < s.size := by omega
        have hks' : (k : Int) < (s.size : Int) := by omega
        have hk0 : (0 : Int) ≤ (k : Int) := by omega
        have hw := byt_wrap s k hks
        have hsz1 := hB.size
        have HB1 := Lib.hid (show Below w.heap.size w (wr.alloc (.cells #[.int .i64 x, .int .i64 y] 25)) from hB.alloc hsz1 _)
        generalize byt s k = z at hw HS HN
        by_cases h3 : z < x
        · go_wp2
          go_ret
          exact ⟨ret_bool (fitsB_no2 (HN.out (by simp [inR]; omega))).symm, HB1.out⟩
        · by_cases h4 : y < z
          · go_wp2
            go_ret
            exact ⟨ret_bool (fitsB_no2 (HN.out (by simp [inR]; omega))).symm, HB1.out⟩
          · go_wp2
            go_roundw
            case rel => exact ⟨k + 1, by omega, by go_num, HS.out (by simp [inR]; omega), HB1.out⟩
            case measure => simp [intOf]; omega
      · obtain rfl : k = n := by omega
        go_wp2
        go_ret
        exact ⟨ret_bool (fitsB_yes (by rw [HA.out]; omega) (fun i h hi => HALL.out i h (by rw [HA.out] at hi; exact hi))).symm, hB⟩
/-! goes -/
def goesB (r : List (Int × Int)) (s : ByteArray) : Prop := r.length = s.size ∧ along r s r.length
instance (r : List (Int × Int)) (s : ByteArray) : Decidable (goesB r s) := by unfold goesB; infer_instance
def goesN (ls : List (List (Int × Int))) (s : ByteArray) : Nat := (ls.filter fun r => decide (goesB r s)).length
theorem goesN_snoc (ls : List (List (Int × Int))) (r : List (Int × Int)) (s : ByteArray) : goesN (ls ++ [r]) s = goesN ls s + if goesB r s then 1 else 0 := by
  unfold goesN
  rw [List.filter_append, List.length_append]
  by_cases h : goesB r s <;> simp [h]
theorem goesN_le (ls : List (List (Int × Int))) (s : ByteArray) : goesN ls s ≤ ls.length := List.length_filter_le _ _
theorem Sls.at2 {w : World} {X : Nat} {vs : List Value} {ls : List (List (Int × Int))} (h : Sls w X vs ls) {k : Nat} (hk : k < vs.length) : ∃ (hl : k < ls.length) (A : Option Addr) (n c : Nat), vs[k] = .slice A n c ∧ n ≤ c ∧ c ≤ maxLen ∧ Rds w X 2 A n (rngs ls[k]) := by
  have hl : k < ls.length := by rw [← h.1]; exact hk
  obtain ⟨A, n, c, h1, h2, h3, h4⟩ := h.2 k hk hl
  exact ⟨hl, A, n, c, h1, h2, h3, h4⟩
theorem Rds.at1 {w : World} {B n : Nat} {A : Option Addr} {vs : List Value} (h : Rds w B 1 A n vs) {k : Nat} (hk : k < n) : ∃ b off, ∃ hl : k < vs.length, A = some ⟨b, off, none⟩ ∧ b < B ∧ w.cell? ⟨b, off + k, none⟩ = some vs[k] := by
  obtain ⟨b, off, e, hb, hc⟩ := h.2 (by omega)
  have hl : k < vs.length := by have := h.1; omega
  exact ⟨b, off, hl, e, hb, hc _ _ (by simp [hl])⟩
end Go.Proofs.YtpdcbddofekbcaaGreat
