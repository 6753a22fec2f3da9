/- Along of the program: walked. -/
import Derived.Test.YtpdcbddofekbcaaGreatGG
namespace Go.Proofs.YtpdcbddofekbcaaGreat
open Go.RowKit
set_option linter.unusedVariables false
def isByteB (x : Int × Int) : Bool := decide (0 ≤ x.1) && decide (x.2 ≤ 255) && decide (x.1 ≤ x.2)
set_option maxHeartbeats 1000000 in
theorem isByte101 (x y : Int) (w : World) : Calls Tryz.prog 43 #[.agg #[.int .i64 x, .int .i64 y]] w fun e w' => e = .returned (.bool (isByteB (x, y))) ∧ Below w.heap.size w w' := by
  have hb := Lib.hid (show Below w.heap.size w (w.alloc (.cells #[.int .i64 x, .int .i64 y] 25)) by go_grown)
  go_enter Tryz.func43, Tryz.ntmps43
  go_wp2
  all_goals (go_ret; exact ⟨ret_bool (by simp [isByteB]; try omega), hb.out⟩)
set_option maxHeartbeats 1000000 in
theorem clo100 (x y : Int) (w : World) : Calls Tryz.prog 42 #[.agg #[.int .i64 x, .int .i64 y]] w fun e w' => e = .returned (.bool (!isByteB (x, y))) ∧ Below w.heap.size w w' := by
  have C := Lib.hid (isByte101 x y)
  go_enter Tryz.func42, Tryz.ntmps42
  go_wp2_with fail
  refine (C.out _).mono ?_
  rintro e w1 ⟨rfl, hb⟩
  have b0 : Below w.heap.size w (w.alloc (.cells #[.int .i64 x, .int .i64 y] 25)) := by go_grown
  go_wp2
  go_ret
  exact ⟨rfl, below_next b0 hb⟩
def roadBad (r : List (Int × Int)) : Bool := decide (r.length < 1) || decide (4 < r.length) || r.any fun x => !isByteB x
def firstL (ls : List (List (Int × Int))) (t : ByteArray) : Int := match ls.find? (fun r => fitsB r t) with | some r => (r.length : Int) | none => 0
theorem firstL_all {ls : List (List (Int × Int))} {t : ByteArray} (h : ∀ r ∈ ls, fitsB r t = false) : firstL ls t = 0 := by
  unfold firstL
  rw [List.find?_eq_none.2 (fun r hr => by rw [h r hr]; simp)]
theorem firstL_at {ls : List (List (Int × Int))} {t : ByteArray} {k : Nat} (hk : k < ls.length) (h : ∀ r ∈ ls.take k, fitsB r t = false) (hf : fitsB ls[k] t = true) : firstL ls t = (ls[k].length : Int) := by
  unfold firstL
  obtain ⟨x, hx⟩ : ∃ x, x = ls[k] := ⟨_, rfl⟩
  rw [← hx] at hf ⊢
  have e : ls = ls.take k ++ x :: ls.drop (k + 1) := by rw [hx, ← List.drop_eq_getElem_cons hk, List.take_append_drop]
  have : ls.find? (fun r => fitsB r t) = some x := by
    rw [e, List.find?_append, List.find?_eq_none.2 (fun r hr => by rw [h r hr]; simp), Option.none_or, List.find?_cons_of_pos (by simpa using hf)]
  rw [this]
theorem all_snoc {ls : List (List (Int × Int))} {f : List (Int × Int) → Bool} {k : Nat} (h : ∀ r ∈ ls.take k, f r = false) (hk : k < ls.length) (hf : f ls[k] = false) : ∀ r ∈ ls.take (k + 1), f r = false := fun r hr => by
  rw [take_snoc' ls k hk] at hr
  rcases List.mem_append.1 hr with h' | h'
  · exact h r h'
  · rw [List.mem_singleton.1 h']; exact hf
theorem any_no {ls : List (List (Int × Int))} {f : List (Int × Int) → Bool} (h : ∀ r ∈ ls, f r = false) : ls.any f = false := List.any_eq_false.2 fun r hr => by rw [h r hr]; simp
theorem any_yes {ls : List (List (Int × Int))} {f : List (Int × Int) → Bool} {k : Nat} (hk : k < ls.length) (h : f ls[k] = true) : ls.any f = true := List.any_eq_true.2 ⟨_, List.getElem_mem hk, h⟩
def alE (enc : Int) (ls : List (List (Int × Int))) (s : ByteArray) (at_ : Int) : Int := if ¬ (1 ≤ enc ∧ enc ≤ 4) then 7 else if ls.any roadBad = true then 1 else if at_ < 0 ∨ (s.size : Int) < at_ then 3 else 0
def alN (enc : Int) (ls : List (List (Int × Int))) (s : ByteArray) (at_ : Int) : Int := if alE enc ls s at_ = 0 then firstL ls (s.extract at_.toNat s.size) else 0
def AlOut (w : World) (enc : Int) (ls : List (List (Int × Int))) (s : ByteArray) (at_ : Int) (e : Ending) (w' : World) : Prop := e = .returned (.tuple #[.int .i64 (alN enc ls s at_), .int .i64 (alE enc ls s at_)]) ∧ Below w.heap.size w w'
set_option maxRecDepth 100000 in
set_option maxHeartbeats 2000000 in
theorem along55 (enc : Int) (ls : List (List (Int × Int))) (vs : List Value) (s : ByteArray) (at_ : Int) (A : Option Addr) (n c : Nat) (w : World) (hn : n ≤ maxLen) (hv : Rds w w.heap.size 1 A n vs) (hs : Sls w w.heap.size vs ls) :
    Calls Tryz.prog 17 #[.int .i64 enc, .slice A n c, .string s, .int .i64 at_] w (AlOut w enc ls s at_) := by
  have hnv : vs.length = n := by have := hv.1; omega
  have HNL := Lib.hid (hs.1.symm.trans hnv)
  have HS := Lib.hid hs
  clear hs hnv
  unfold maxLen at hn
  by_cases he : 1 ≤ enc ∧ enc ≤ 4
  · have HE := Lib.hid he
    have he1 : ¬ enc < 1 := by omega
    have he2 : ¬ 4 < enc := by omega
    have he3 : decide (enc < 1) = false := decide_eq_false he1
    have he4 : decide (4 < enc) = false := decide_eq_false he2
    clear he
    have EG := Lib.hid (show ∀ args w, (callFunc 42 args).run Tryz.prog w = .ok (.enter 42 args) w from enters_of Tryz.func42 (by kernel_rfl) rfl)
    go_enter Tryz.func17, Tryz.ntmps17
    go_wp2_with fail
    go_loopw [22] (fun i wr => ∃ k : Nat, k ≤ n ∧ i = .int .i64 k ∧ (∀ r ∈ ls.take k, roadBad r = false) ∧ Below w.heap.size w wr) (fun i _ => n - (intOf i).toNat)
    case atStart => exact ⟨0, Nat.zero_le _, rfl, by simp, Below.refl _ _⟩
    case round =>
      obtain ⟨k, hk, rfl, hall, hB⟩ := hrel
      have HALL := Lib.hid hall
      clear hall
      have hsz := hB.size
      by_cases hlt : k < n
      · obtain ⟨b1, off1, hl1, hA, hb1, hc1⟩ := (hv.below hB (Nat.le_refl _)).at1 hlt
        obtain ⟨hl2, A2, n2, c2, hvk, hnc2, hc2m, hr2⟩ := (HS.out.below hB (Nat.le_refl _)).at2 hl1
        rw [hvk] at hc1
        clear hvk
        subst hA
        have HSN := Lib.hid (fun h => all_snoc (f := roadBad) HALL.out hl2 h)
        have HYES := Lib.hid (fun h => any_yes (f := roadBad) hl2 h)
        have HA2 := Lib.hid hr2.rngs_len
        obtain ⟨r, hr⟩ : ∃ r, r = ls[k] := ⟨_, rfl⟩
        rw [← hr] at HSN HYES HA2 hr2
        clear hr
        have k2 : (k : Int) < (n : Int) := by omega
        have HBAD := Lib.hid (fun h : roadBad r = true => show AlOut w enc ls s at_ (.returned (.tuple #[.int .i64 0, .int .i64 1])) _ from ⟨by
          have e1 : alE enc ls s at_ = 1 := by unfold alE; rw [if_neg (fun h => h HE.out), if_pos (HYES.out h)]
          rw [alN, e1]; rfl, hB⟩)
        by_cases h0 : n2 < 1
        · have hr0 := Lib.hid (show roadBad r = true by unfold roadBad; rw [HA2.out, decide_eq_true h0]; rfl)
          have h0' : (n2 : Int) < 1 := by omega
          go_wp2
          go_ret2
          exact HBAD.out hr0.out
        · by_cases h4 : 4 < n2
          · have hr0 := Lib.hid (show roadBad r = true by unfold roadBad; rw [HA2.out, decide_eq_true h4]; simp)
            have h0' : ¬ (n2 : Int) < 1 := by omega
            have h4' : (4 : Int) < (n2 : Int) := by omega
            go_wp2
            go_ret2
            exact HBAD.out hr0.out
          · have HR := Lib.hid (show roadBad r = r.any fun x => !isByteB x by unfold roadBad; rw [HA2.out, decide_eq_false h0, decide_eq_false h4]; rfl)
            have h0' : ¬ (n2 : Int) < 1 := by omega
            have h4' : ¬ (4 : Int) < (n2 : Int) := by omega
            go_wp2_with fail
            refine (contains99g (fun x => !isByteB x) 42 #[] r A2 n2 c2 wr (by unfold maxLen; omega) (hr2.more hsz) EG.out (fun x w' hbw => clo100 x.1 x.2 w')).mono ?_
            rintro e w1 ⟨rfl, hb1⟩
            rw [← HR.out]
            have hB1 := hB.trans (hb1.mono hsz)
            cases hbad : roadBad r
            · have HBD := Lib.hid hbad
              clear hbad
              go_wp2
              go_roundw
              case rel => exact ⟨k + 1, by omega, by go_num, HSN.out HBD.out, hB1⟩
              case measure => simp [intOf]; omega
            · have HBD := Lib.hid hbad
              clear hbad
              go_wp2
              go_ret2
              exact ⟨(HBAD.out HBD.out).1, hB1⟩
      · obtain rfl : k = n := by omega
        have HTT := Lib.hid (show ls.take k = ls from List.take_of_length_le (by rw [HNL.out]; exact Nat.le_refl _))
        have HNO := Lib.hid (any_no (f := roadBad) (by have := HALL.out; rwa [HTT.out] at this))
        by_cases ha : at_ < 0
        · have HR := Lib.hid (show AlOut w enc ls s at_ (.returned (.tuple #[.int .i64 0, .int .i64 3])) wr from ⟨by
            have e1 : alE enc ls s at_ = 3 := by unfold alE; rw [if_neg (fun h => h HE.out), if_neg (by rw [HNO.out]; simp), if_pos (.inl ha)]
            rw [alN, e1]; rfl, hB⟩)
          go_wp2
          go_ret2
          exact HR.out
        · by_cases ha2 : (s.size : Int) < at_
          · have HR := Lib.hid (show AlOut w enc ls s at_ (.returned (.tuple #[.int .i64 0, .int .i64 3])) wr from ⟨by
              have e1 : alE enc ls s at_ = 3 := by unfold alE; rw [if_neg (fun h => h HE.out), if_neg (by rw [HNO.out]; simp), if_pos (.inr ha2)]
              rw [alN, e1]; rfl, hB⟩)
            go_wp2
            go_ret2
            exact HR.out
          · have HR := Lib.hid (fun (v : Int) (w' : World) (hv : firstL ls (s.extract at_.toNat s.size) = v) (hB : Below w.heap.size w w') => show AlOut w enc ls s at_ (.returned (.tuple #[.int .i64 v, .int .i64 0])) w' from ⟨by
              have e1 : alE enc ls s at_ = 0 := by unfold alE; rw [if_neg (fun h => h HE.out), if_neg (by rw [HNO.out]; simp), if_neg (by omega)]
              rw [alN, e1, if_pos rfl, hv], hB⟩)
            obtain ⟨m, rfl⟩ : ∃ m : Nat, at_ = (m : Int) := ⟨at_.toNat, by omega⟩
            have hms : m ≤ s.size := by omega
            have hms' : (m : Int) ≤ (s.size : Int) := by omega
            have hm1 : decide (s.size < m) = false := decide_eq_false (by omega)
            have hm2 : decide ((m : Int) < 0) = false := decide_eq_false (by omega)
            clear ha ha2 HALL
            go_wp2_with fail
            go_loopw [49] (fun i wr => ∃ j : Nat, j ≤ k ∧ i = .int .i64 j ∧ (∀ r ∈ ls.take j, fitsB r (s.extract m s.size) = false) ∧ Below w.heap.size w wr) (fun i _ => k - (intOf i).toNat)
            case atStart => exact ⟨0, Nat.zero_le _, rfl, by simp, hB⟩
            case round =>
              obtain ⟨j, hj, rfl, hall, hB2⟩ := hrel
              have HALL := Lib.hid hall
              clear hall
              have hsz2 := hB2.size
              by_cases hjk : j < k
              · obtain ⟨b1, off1, hl1, hA, hb1, hc1⟩ := (hv.below hB2 (Nat.le_refl _)).at1 hjk
                obtain ⟨hl2, A2, n2, c2, hvk, hnc2, hc2m, hr2⟩ := (HS.out.below hB2 (Nat.le_refl _)).at2 hl1
                rw [hvk] at hc1
                clear hvk
                subst hA
                have HSN := Lib.hid (fun h => all_snoc (f := fun r => fitsB r (s.extract m s.size)) HALL.out hl2 h)
                have HYES := Lib.hid (fun h => firstL_at hl2 HALL.out h)
                have HA2 := Lib.hid hr2.rngs_len
                obtain ⟨r, hr⟩ : ∃ r, r = ls[j] := ⟨_, rfl⟩
                rw [← hr] at HSN HYES HA2 hr2
                clear hr
                have k2 : (j : Int) < (k : Int) := by omega
                go_wp2_with fail
                refine (fits102 r (s.extract m s.size) A2 n2 c2 _ (by omega) (hr2.more hsz2)).mono ?_
                rintro e w1 ⟨rfl, hb1⟩
                have hB3 := hB2.trans (hb1.mono hsz2)
                cases hf : fitsB r (s.extract m s.size)
                · have HF := Lib.hid hf
                  clear hf
                  go_wp2
                  go_roundw
                  case rel => exact ⟨j + 1, by omega, by go_num, HSN.out HF.out, hB3⟩
                  case measure => simp [intOf]; omega
                · have HF := Lib.hid hf
                  clear hf
                  go_wp2
                  go_ret2
                  exact HR.out _ _ (by simpa [HA2.out] using HYES.out HF.out) hB3
              · obtain rfl : j = k := by omega
                go_wp2
                go_ret2
                exact HR.out _ _ (firstL_all (by have := HALL.out; rwa [HTT.out] at this)) hB2
  · have HR := Lib.hid (show AlOut w enc ls s at_ (.returned (.tuple #[.int .i64 0, .int .i64 7])) w from ⟨by
      have e1 : alE enc ls s at_ = 7 := by unfold alE; rw [if_pos he]
      rw [alN, e1]; rfl, Below.refl _ _⟩)
    by_cases h1 : enc < 1
    · clear he
      go_enter Tryz.func17, Tryz.ntmps17
      go_wp2
      go_ret2
      exact HR.out
    · have h4 : 4 < enc := by omega
      clear he
      go_enter Tryz.func17, Tryz.ntmps17
      go_wp2
      go_ret2
      exact HR.out
end Go.Proofs.YtpdcbddofekbcaaGreat
