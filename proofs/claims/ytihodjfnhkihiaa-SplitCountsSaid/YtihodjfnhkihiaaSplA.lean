/- fits, isByte of the program, goes of the law: walked. -/
import Derived.Test.YtihodjfnhkihiaaSplV
namespace Go.Proofs.Ytihodjfnhkihiaa
open Go.RowKit
set_option linter.unusedVariables false
def byt (s : ByteArray) (k : Nat) : Int := if h : k < s.size then (s[k].toNat : Int) else 0
theorem byt_rng (s : ByteArray) (k : Nat) : 0 ≤ byt s k ∧ byt s k < 256 := by
  unfold byt
  split
  · have := UInt8.toNat_lt s[k]; omega
  · omega
theorem byt_wrap (s : ByteArray) (k : Nat) (h : k < s.size) : wrap64 ((s[k].toNat : Nat) : Int) = byt s k := by
  have := UInt8.toNat_lt s[k]
  rw [byt, dif_pos h]
  exact IntWalk.wrap64_in ((s[k].toNat : Nat) : Int) ⟨by omega, by omega⟩
def inR (r : Int × Int) (c : Int) : Bool := decide (r.1 ≤ c) && decide (c ≤ r.2)
/-- the first k of the road let the first k bytes through -/
def along (r : List (Int × Int)) (s : ByteArray) (k : Nat) : Prop := ∀ i (h : i < r.length), i < k → inR r[i] (byt s i) = true
theorem along_snoc {r : List (Int × Int)} {s : ByteArray} {k : Nat} (h : along r s k) (hk : k < r.length) (hr : inR r[k] (byt s k) = true) : along r s (k + 1) := fun i hi hik => by
  by_cases e : i = k
  · subst e; exact hr
  · exact h i hi (by omega)
theorem along_not {r : List (Int × Int)} {s : ByteArray} {k : Nat} (hk : k < r.length) (hr : inR r[k] (byt s k) = false) : ¬ along r s r.length := fun h => by
  rw [h k hk hk] at hr; cases hr
instance (r : List (Int × Int)) (s : ByteArray) (k : Nat) : Decidable (along r s k) := by unfold along; infer_instance
def fitsB (r : List (Int × Int)) (s : ByteArray) : Bool := decide (r.length ≤ s.size) && decide (along r s r.length)
theorem fitsB_no1 {r : List (Int × Int)} {s : ByteArray} (h : s.size < r.length) : fitsB r s = false := by unfold fitsB; rw [decide_eq_false (by omega)]; rfl
theorem fitsB_no2 {r : List (Int × Int)} {s : ByteArray} (h : ¬ along r s r.length) : fitsB r s = false := by unfold fitsB; rw [decide_eq_false h]; simp
theorem fitsB_yes {r : List (Int × Int)} {s : ByteArray} (h : r.length ≤ s.size) (k : along r s r.length) : fitsB r s = true := by unfold fitsB; rw [decide_eq_true h, decide_eq_true k]; rfl
set_option maxRecDepth 100000 in
set_option maxHeartbeats 1000000 in
theorem fits102 (r : List (Int × Int)) (s : ByteArray) (A : Option Addr) (n c : Nat) (w : World) (hn : n ≤ maxLen) (ha : Rds w w.heap.size 2 A n (rngs r)) :
    Calls Try.prog 48 #[.slice A n c, .string s] w fun e w' => e = .returned (.bool (fitsB r s)) ∧ Below w.heap.size w w' := by
  have HA := Lib.hid ha.rngs_len
  unfold maxLen at hn
  go_enter Try.func48, Try.ntmps48
  by_cases hsz : s.size < n
  · have h1 : (s.size : Int) < (n : Int) := by omega
    go_wp2
    go_ret
    exact ⟨ret_bool (fitsB_no1 (by rw [HA.out]; exact hsz)).symm, Below.refl _ _⟩
  · have h1 : ¬ (s.size : Int) < (n : Int) := by omega
    go_wp2_with fail
    go_loopw [15] (fun i wr => ∃ k : Nat, k ≤ n ∧ i = .int .i64 k ∧ along r s k ∧ Below w.heap.size w wr) (fun i _ => n - (intOf i).toNat)
    case atStart => exact ⟨0, Nat.zero_le _, rfl, fun i _ h => by omega, Below.refl _ _⟩
    case round =>
      obtain ⟨k, hk, rfl, hall, hB⟩ := hrel
      have HALL := Lib.hid hall
      clear hall
      by_cases hlt : k < n
      · obtain ⟨b1, off1, hl1, hA, hb1, hc1, hd1⟩ := (ha.below hB (Nat.le_refl _)).rng_at hlt
        subst hA
        have HS := Lib.hid (fun h => along_snoc HALL.out hl1 h)
        have HN := Lib.hid (fun h => along_not (s := s) hl1 h)
        obtain ⟨p, hp⟩ : ∃ p, p = r[k] := ⟨_, rfl⟩
        rw [← hp] at hc1 hd1 HS HN
        clear hp
        obtain ⟨x, y⟩ := p
        simp only at hc1 hd1
        have hks : k < s.size := by omega
        have hks' : (k : Int) < (s.size : Int) := by omega
        have hk0 : (0 : Int) ≤ (k : Int) := by omega
        have hw := byt_wrap s k hks
        have hsz1 := hB.size
        have HB1 := Lib.hid (show Below w.heap.size w (wr.alloc (.cells #[.int .i64 x, .int .i64 y] 31)) from hB.alloc hsz1 _)
        generalize byt s k = z at hw HS HN
        by_cases h3 : z < x
        · go_wp2
          go_ret
          exact ⟨ret_bool (fitsB_no2 (HN.out (by simp [inR]; omega))).symm, HB1.out⟩
        · by_cases h4 : y < z
          · go_wp2
            go_ret
            exact ⟨ret_bool (fitsB_no2 (HN.out (by simp [inR]; omega))).symm, HB1.out⟩
          · go_wp2
            go_roundw
            case rel => exact ⟨k + 1, by omega, by go_num, HS.out (by simp [inR]; omega), HB1.out⟩
            case measure => simp [intOf]; omega
      · obtain rfl : k = n := by omega
        go_wp2
        go_ret
        exact ⟨ret_bool (fitsB_yes (by rw [HA.out]; omega) (fun i h hi => HALL.out i h (by rw [HA.out] at hi; exact hi))).symm, hB⟩
/-! goes -/
def goesB (r : List (Int × Int)) (s : ByteArray) : Prop := r.length = s.size ∧ along r s r.length
instance (r : List (Int × Int)) (s : ByteArray) : Decidable (goesB r s) := by unfold goesB; infer_instance
def goesN (ls : List (List (Int × Int))) (s : ByteArray) : Nat := (ls.filter fun r => decide (goesB r s)).length
theorem goesN_snoc (ls : List (List (Int × Int))) (r : List (Int × Int)) (s : ByteArray) : goesN (ls ++ [r]) s = goesN ls s + if goesB r s then 1 else 0 := by
  unfold goesN
  rw [List.filter_append, List.length_append]
  by_cases h : goesB r s <;> simp [h]
theorem goesN_le (ls : List (List (Int × Int))) (s : ByteArray) : goesN ls s ≤ ls.length := List.length_filter_le _ _
theorem Sls.at2 {w : World} {X : Nat} {vs : List Value} {ls : List (List (Int × Int))} (h : Sls w X vs ls) {k : Nat} (hk : k < vs.length) : ∃ (hl : k < ls.length) (A : Option Addr) (n c : Nat), vs[k] = .slice A n c ∧ n ≤ c ∧ c ≤ maxLen ∧ Rds w X 2 A n (rngs ls[k]) := by
  have hl : k < ls.length := by rw [← h.1]; exact hk
  obtain ⟨A, n, c, h1, h2, h3, h4⟩ := h.2 k hk hl
  exact ⟨hl, A, n, c, h1, h2, h3, h4⟩
theorem Rds.at1 {w : World} {B n : Nat} {A : Option Addr} {vs : List Value} (h : Rds w B 1 A n vs) {k : Nat} (hk : k < n) : ∃ b off, ∃ hl : k < vs.length, A = some ⟨b, off, none⟩ ∧ b < B ∧ w.cell? ⟨b, off + k, none⟩ = some vs[k] := by
  obtain ⟨b, off, e, hb, hc⟩ := h.2 (by omega)
  have hl : k < vs.length := by have := h.1; omega
  exact ⟨b, off, hl, e, hb, hc _ _ (by simp [hl])⟩
set_option maxRecDepth 100000 in
set_option maxHeartbeats 2000000 in
theorem goes53 (ls : List (List (Int × Int))) (vs : List Value) (s : ByteArray) (A : Option Addr) (n c : Nat) (w : World) (hn : n ≤ maxLen) (hv : Rds w w.heap.size 1 A n vs) (hs : Sls w w.heap.size vs ls) :
    Calls Try.prog 12 #[.slice A n c, .string s] w fun e w' => e = .returned (.int .i64 (goesN ls s : Nat)) ∧ ∃ q, w' = w.drewN q := by
  have hnv : vs.length = n := by have := hv.1; omega
  have HNL := Lib.hid (hs.1.symm.trans hnv)
  have HS := Lib.hid hs
  clear hs hnv
  unfold maxLen at hn
  go_enter Try.func12, Try.ntmps12
  go_wp2_with fail
  go_loopw [5, 6] (fun m i wr => ∃ k q : Nat, k ≤ n ∧ i = .int .i64 k ∧ m = .int .i64 (goesN (ls.take k) s : Nat) ∧ wr = w.drewN q) (fun _ i _ => n - (intOf i).toNat)
  case atStart => exact ⟨0, 0, Nat.zero_le _, rfl, rfl, rfl⟩
  case round =>
    obtain ⟨k, q, hk, rfl, rfl, rfl⟩ := hrel
    have hgn := goesN_le (ls.take k) s
    rw [List.length_take] at hgn
    have hgn2 : goesN (ls.take k) s ≤ k := by omega
    clear hgn
    by_cases hlt : k < n
    · obtain ⟨b1, off1, hl1, hA, hb1, hc1⟩ := hv.at1 hlt
      obtain ⟨hl2, A2, n2, c2, hvk, hnc2, hc2m, hr2⟩ := HS.out.at2 hl1
      rw [hvk] at hc1
      clear hvk
      subst hA
      have HT := Lib.hid (show goesN (ls.take (k + 1)) s = goesN (ls.take k) s + if goesB ls[k] s then 1 else 0 by rw [take_snoc' ls k hl2, goesN_snoc])
      have HA2 := Lib.hid hr2.rngs_len
      obtain ⟨r, hr⟩ : ∃ r, r = ls[k] := ⟨_, rfl⟩
      rw [← hr] at HT HA2 hr2
      clear hr
      generalize goesN (ls.take k) s = g at *
      have k2 : (k : Int) < (n : Int) := by omega
      have k0 : (0 : Int) ≤ (k : Int) := by omega
      unfold maxLen at hc2m
      by_cases hsn : n2 = s.size
      · have HSN := Lib.hid hsn
        have hsb : ((n2 : Int) == (s.size : Int)) = true := by rw [beq_iff_eq]; omega
        go_wp2_with fail
        go_loopw [7, 8] (fun o i wr => ∃ (j q' : Nat) (b : Bool), j ≤ s.size ∧ i = .int .i64 j ∧ o = .bool b ∧ (b = true → along r s j) ∧ (b = false → ¬ along r s r.length) ∧ wr = w.drewN q') (fun _ i _ => s.size - (intOf i).toNat)
        case atStart => exact ⟨0, q, true, Nat.zero_le _, rfl, rfl, fun _ i _ h => by omega, by simp, rfl⟩
        case round =>
          obtain ⟨j, q', b, hj, rfl, rfl, hb1', hb2', rfl⟩ := hrel
          have HB1 := Lib.hid hb1'
          have HB2 := Lib.hid hb2'
          clear hb1' hb2' hsb
          by_cases hjs : j < s.size
          · have hjs' : (j : Int) < (s.size : Int) := by omega
            cases b
            · have HB3 := Lib.hid (HB2.out rfl)
              have HGF := Lib.hid (show (if goesB r s then 1 else 0) = 0 from if_neg fun h => HB3.out h.2)
              go_wp2
              go_roundw
              case rel => exact ⟨k + 1, q', by omega, by go_num, by rw [HT.out, HGF.out]; rfl, rfl⟩
              case measure => simp [intOf]; omega
            · have HB3 := Lib.hid (HB1.out rfl)
              obtain ⟨b3, off3, hl3, hA3, hb3, hc3, hd3⟩ := hr2.rng_at (k := j) (by omega)
              have HA3 := Lib.hid hA3
              subst hA3
              have HS1 := Lib.hid (fun h => along_snoc HB3.out hl3 h)
              have HN1 := Lib.hid (fun h => along_not (s := s) hl3 h)
              obtain ⟨p, hp⟩ : ∃ p, p = r[j] := ⟨_, rfl⟩
              rw [← hp] at hc3 hd3 HS1 HN1
              clear hp
              obtain ⟨x, y⟩ := p
              simp only at hc3 hd3
              have hj0 : (0 : Int) ≤ (j : Int) := by omega
              have hjn : (j : Int) < (n2 : Int) := by omega
              have W1 := Lib.hid (show IntKind.i64.wrap ((s[j].toNat : Nat) : Int) = byt s j by rw [IntWalk.i64_left]; exact byt_wrap s j hjs)
              have W2 := Lib.hid (byt_wrap s j hjs)
              generalize byt s j = z at W1 W2 HS1 HN1
              clear HB1 HB2 HB3
              by_cases h3 : x ≤ z
              · by_cases h4 : z ≤ y
                · have HI := Lib.hid (HS1.out (by simp [inR]; omega))
                  go_wp2_with fail
                  have w1 := W1.out
                  have w2 := W2.out
                  go_quiet (fail)
                  clear w1 w2
                  go_wp2
                  go_roundw
                  case rel => exact ⟨j + 1, _, true, by omega, by go_num, by simp [h3, h4], fun _ => HI.out, (by simp), rfl⟩
                  case measure => simp [intOf]; omega
                · have HI := Lib.hid (HN1.out (by simp [inR]; omega))
                  go_wp2_with fail
                  have w1 := W1.out
                  have w2 := W2.out
                  go_quiet (fail)
                  clear w1 w2
                  go_wp2
                  go_roundw
                  case rel => exact ⟨j + 1, _, false, by omega, by go_num, by simp [h3, h4], (by simp), fun _ => HI.out, rfl⟩
                  case measure => simp [intOf]; omega
              · have HI := Lib.hid (HN1.out (by simp [inR]; omega))
                have h3b : decide (x ≤ z) = false := decide_eq_false h3
                have h3c : z < x := by omega
                go_wp2_with fail
                have w1 := W1.out
                have w2 := W2.out
                go_quiet (fail)
                clear w1 w2
                go_wp2
                go_roundw
                case rel => exact ⟨j + 1, _, false, by omega, by go_num, by simp [h3], (by simp), fun _ => HI.out, rfl⟩
                case measure => simp [intOf]; omega
          · obtain rfl : j = s.size := by omega
            cases b
            · have HB3 := Lib.hid (HB2.out rfl)
              have HGF := Lib.hid (show (if goesB r s then 1 else 0) = 0 from if_neg fun h => HB3.out h.2)
              go_wp2
              go_roundw
              case rel => exact ⟨k + 1, q', by omega, by go_num, by rw [HT.out, HGF.out]; rfl, rfl⟩
              case measure => simp [intOf]; omega
            · have HGT := Lib.hid (show (if goesB r s then 1 else 0) = 1 from if_pos ⟨HA2.out.trans HSN.out, fun i h hi => HB1.out rfl i h (by rw [HA2.out, HSN.out] at hi; exact hi)⟩)
              go_wp2
              go_roundw
              case rel => exact ⟨k + 1, q', by omega, by go_num, by rw [HT.out, HGT.out]; go_num, rfl⟩
              case measure => simp [intOf]; omega
      · have HSN := Lib.hid hsn
        have hsb : ((n2 : Int) == (s.size : Int)) = false := by rw [beq_eq_false_iff_ne]; omega
        have HGF := Lib.hid (show (if goesB r s then 1 else 0) = 0 from if_neg fun h => HSN.out (HA2.out.symm.trans h.1))
        go_wp2_with fail
        go_loopw [7, 8] (fun o i wr => i = .int .i64 0 ∧ o = .bool false ∧ wr = w.drewN q) (fun _ i _ => 0)
        case atStart => exact ⟨rfl, rfl, rfl⟩
        case round =>
          obtain ⟨rfl, rfl, rfl⟩ := hrel
          clear hsb
          go_wp2
          all_goals first
            | (refine ⟨⟨k + 1, q, by omega, by go_num, by rw [HT.out, HGF.out]; rfl, rfl⟩, ?_⟩; simp [intOf]; omega)
            | skip
    · obtain rfl : k = n := by omega
      have HTT := Lib.hid (show ls.take k = ls from List.take_of_length_le (by rw [HNL.out]; exact Nat.le_refl _))
      go_wp2
      go_ret
      rw [HTT.out]
      exact ⟨rfl, q, rfl⟩
end Go.Proofs.Ytihodjfnhkihiaa
