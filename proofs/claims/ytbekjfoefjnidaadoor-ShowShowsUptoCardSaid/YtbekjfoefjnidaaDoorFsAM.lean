/- NameAt of the reference: walked. -/
import Derived.Test.YtbekjfoefjnidaaDoorFsAL
import Derived.Laws.BytesArg
import Derived.Laws.Concat
namespace Go.Proofs.YtbekjfoefjnidaaDoor
open Go.RowKit
set_option linter.unusedVariables false
/-- k points of a name stand at a place -/
structure NmAt (l : List Int) (p : Int) (k : Nat) : Prop where
  le : k ≤ 20
  ok : ∀ i : Nat, i < k → okAt i (ptAt l (p + i))
  stop : k = 20 ∨ ¬ okAt k (ptAt l (p + k))
theorem nmAt_ex (l : List Int) (p : Int) : ∃ k, NmAt l p k := by
  have h : ∀ f k, k + f = 20 → (∀ i : Nat, i < k → okAt i (ptAt l (p + i))) → ∃ k, NmAt l p k := by
    intro f
    induction f with
    | zero => intro k hk h; exact ⟨k, by omega, h, .inl (by omega)⟩
    | succ f ih =>
      intro k hk h
      by_cases hc : okAt k (ptAt l (p + k))
      · refine ih (k + 1) (by omega) fun i hi => ?_
        rcases Nat.lt_succ_iff_lt_or_eq.1 hi with h1 | rfl
        · exact h i h1
        · exact hc
      · exact ⟨k, by omega, h, .inr hc⟩
  exact h 20 0 rfl (fun i hi => absurd hi (Nat.not_lt_zero i))
theorem NmAt.more {l : List Int} {p : Int} {k i : Nat} (h : NmAt l p k) (hi : i ≤ k) (h20 : i < 20) (ho : okAt i (ptAt l (p + i))) : i < k := by
  rcases Nat.lt_or_ge i k with h1 | h1
  · exact h1
  · obtain rfl : i = k := by omega
    rcases h.stop with h2 | h2
    · omega
    · exact absurd ho h2
theorem NmAt.end_ {l : List Int} {p : Int} {k i : Nat} (h : NmAt l p k) (hi : i ≤ k) (ho : ¬ okAt i (ptAt l (p + i))) : i = k := by
  rcases Nat.lt_or_ge i k with h1 | h1
  · exact absurd (h.ok i h1) ho
  · omega
def nmPts (l : List Int) (p : Int) (k : Nat) : List Int := (List.range k).map fun i : Nat => ptAt l (p + i)
def nmStr (l : List Int) (p : Int) (k : Nat) : ByteArray := strOfNums (nmPts l p k)
theorem nmStr_size (l : List Int) (p : Int) (k : Nat) : (nmStr l p k).size = k := by unfold nmStr nmPts; rw [strOfNums_size]; simp
theorem strOfNums_append (a b : List Int) : strOfNums (a ++ b) = strOfNums a ++ strOfNums b := by
  unfold strOfNums; rw [ByteArray.mk_append_mk, List.map_append]
theorem nmStr_succ (l : List Int) (p : Int) (k : Nat) : nmStr l p (k + 1) = nmStr l p k ++ strOfNums [ptAt l (p + k)] := by
  unfold nmStr nmPts; rw [List.range_succ, List.map_append, strOfNums_append]; rfl
theorem ptAt_okAt {l : List Int} {p : Int} {i : Nat} (h : okAt i (ptAt l p)) : 0 ≤ p ∧ p < l.length := by
  by_cases hc : 0 ≤ p ∧ p < l.length
  · exact hc
  · rw [ptAt_out l hc] at h; unfold okAt letN digN at h; omega
theorem conv_one (w : World) (x : Int) : (convert 54 9 (.slice (some ⟨w.heap.size, 0, none⟩) 1 1)).run Tryd.prog (w.alloc (.cells #[.int .u8 x] 5)) = .ok (.string (strOfNums [x])) (w.alloc (.cells #[.int .u8 x] 5)) :=
  run_convert_bytes_arg _ 54 5 Tryd.underlying54 Tryd.underlying5 w.heap.size 0 1 1 [x] rfl (fun i hi => by
    obtain rfl : i = 0 := by omega
    rw [cell_of_row _ _ _ _ 5 (0, 0) (heap_alloc_new w _)]; rfl) 9 Tryd.underlying9
set_option maxRecDepth 100000 in
set_option maxHeartbeats 4000000 in
theorem nameAt45 (l : List Int) (p : Int) (A : Option Addr) (n c k : Nat) (w : World) (hn : n < maxLen) (ha : Rds w w.heap.size 1 A n (ints l)) (hk : NmAt l p k) :
    Calls Tryd.prog 32 #[.slice A n c, .int .i64 p] w fun e w' => e = .returned (.tuple #[.string (nmStr l p k), .int .i64 (p + k)]) ∧ Below w.heap.size w w' := by
  have HK := Lib.hid hk
  have HLN := Lib.hid ha.ints_len
  have HA := Lib.hid ha
  have hk20 := hk.le
  clear hk ha
  have hnn := hn
  unfold maxLen at hn
  go_enter Tryd.func32, Tryd.ntmps32
  go_wp2_with fail
  go_loopw [1, 6] (fun a s wr => ∃ i : Nat, i ≤ k ∧ a = .int .i64 (p + i) ∧ s = .string (nmStr l p i) ∧ Hid (Below w.heap.size w wr)) (fun a _ _ => k - (intOf a - p).toNat)
  case atStart => exact ⟨0, Nat.zero_le _, by simp, rfl, Lib.hid (Below.refl _ _)⟩
  case round =>
    obtain ⟨i, hi, rfl, rfl, HW⟩ := hrel
    have hsz := HW.out.size
    by_cases h20 : i < 20
    · have HMORE := Lib.hid (HK.out.more hi h20)
      have HEND := Lib.hid (HK.out.end_ hi)
      have HIN := Lib.hid (fun h => ptAt_okAt (l := l) (p := p + i) (i := i) h)
      rw [HLN.out] at HIN
      have HS := Lib.hid (nmStr_succ l p i)
      have C54 := Lib.hid (pointAt54 l (p + i) A n c wr w.heap.size (Nat.le_of_lt hnn) (HA.out.below HW.out (Nat.le_refl _)))
      obtain ⟨x, hx⟩ : ∃ x, x = ptAt l (p + i) := ⟨_, rfl⟩
      rw [← hx] at HMORE HEND HIN HS C54
      clear hx
      have hsl := nmStr_size l p i
      obtain ⟨s, hs⟩ : ∃ s, s = nmStr l p i := ⟨_, rfl⟩
      rw [← hs] at hsl HS ⊢
      have HSK := Lib.hid (fun h : i = k => show s = nmStr l p k by rw [hs, h])
      clear hs
      have C55 := Lib.hid (letter55 x wr)
      have C56 := Lib.hid (digit56 x wr)
      unfold okAt letN digN at HMORE HEND HIN
      have hcv := conv_one wr x
      have hss : (strOfNums [x]).size = 1 := strOfNums_size _
      have hx8 : 0 ≤ x → x ≤ 255 → IntKind.u8.wrap x = x := fun h1 h2 => by rw [IntKind.wrap_u8]; omega
      by_cases hl : 65 ≤ x ∧ x ≤ 90 ∨ 97 ≤ x ∧ x ≤ 122
      · have hxw := hx8 (by omega) (by omega)
        rw [decide_eq_true hl] at C55
        have hlt : i < k := HMORE.out (by omega)
        have hin := HIN.out (by omega)
        clear HMORE HEND HIN
        go_wp2_with (first | (go_at_call 40; refine C54.out.mono ?_; rintro e w' ⟨rfl, rfl⟩) | (go_at_call 41; refine C55.out.mono ?_; rintro e w' ⟨rfl, rfl⟩) | (go_at_call 42; refine C56.out.mono ?_; rintro e w' ⟨rfl, rfl⟩))
        go_roundw
        case rel => exact ⟨i + 1, by omega, by first | rfl | go_num | (congr 1; omega), by rw [HS.out], Lib.hid (HW.out.alloc hsz _)⟩
        case measure => simp [intOf]; omega
      · rw [decide_eq_false hl] at C55
        by_cases h95 : x = 95
        · have hxw := hx8 (by omega) (by omega)
          have h95b : (x != 95) = false := by simp [h95]
          have H95 := Lib.hid h95
          clear h95
          have hlt : i < k := HMORE.out (by have := H95.out; omega)
          have hin := HIN.out (by have := H95.out; omega)
          clear HMORE HEND HIN
          go_wp2_with (first | (go_at_call 40; refine C54.out.mono ?_; rintro e w' ⟨rfl, rfl⟩) | (go_at_call 41; refine C55.out.mono ?_; rintro e w' ⟨rfl, rfl⟩) | (go_at_call 42; refine C56.out.mono ?_; rintro e w' ⟨rfl, rfl⟩))
          go_roundw
          case rel => exact ⟨i + 1, by omega, by first | rfl | go_num | (congr 1; omega), by rw [HS.out], Lib.hid (HW.out.alloc hsz _)⟩
          case measure => simp [intOf]; omega
        · have h95b : (x != 95) = true := by simp [h95]
          by_cases hi0 : i = 0
          · have hi0b : ((i : Int) == 0) = true := by simp [hi0]
            obtain rfl : i = k := HEND.out (by omega)
            have HI0 := Lib.hid hi0
            clear hi0
            clear HMORE HEND HIN
            go_wp2_with (first | (go_at_call 40; refine C54.out.mono ?_; rintro e w' ⟨rfl, rfl⟩) | (go_at_call 41; refine C55.out.mono ?_; rintro e w' ⟨rfl, rfl⟩) | (go_at_call 42; refine C56.out.mono ?_; rintro e w' ⟨rfl, rfl⟩))
            go_ret2
            exact ⟨by rw [← HSK.out (by first | trivial | rfl)]; rfl, HW.out⟩
          · have hi0b : ((i : Int) == 0) = false := by simp [hi0]
            by_cases hd : 48 ≤ x ∧ x ≤ 57
            · rw [decide_eq_true hd] at C56
              have hxw := hx8 (by omega) (by omega)
              have hlt : i < k := HMORE.out (by omega)
              have hin := HIN.out (by omega)
              clear HMORE HEND HIN
              go_wp2_with (first | (go_at_call 40; refine C54.out.mono ?_; rintro e w' ⟨rfl, rfl⟩) | (go_at_call 41; refine C55.out.mono ?_; rintro e w' ⟨rfl, rfl⟩) | (go_at_call 42; refine C56.out.mono ?_; rintro e w' ⟨rfl, rfl⟩))
              go_roundw
              case rel => exact ⟨i + 1, by omega, by first | rfl | go_num | (congr 1; omega), by rw [HS.out], Lib.hid (HW.out.alloc hsz _)⟩
              case measure => simp [intOf]; omega
            · rw [decide_eq_false hd] at C56
              obtain rfl : i = k := HEND.out (by omega)
              clear HMORE HEND HIN
              go_wp2_with (first | (go_at_call 40; refine C54.out.mono ?_; rintro e w' ⟨rfl, rfl⟩) | (go_at_call 41; refine C55.out.mono ?_; rintro e w' ⟨rfl, rfl⟩) | (go_at_call 42; refine C56.out.mono ?_; rintro e w' ⟨rfl, rfl⟩))
              go_ret2
              exact ⟨by rw [← HSK.out (by first | trivial | rfl)]; rfl, HW.out⟩
    · obtain rfl : i = k := by omega
      have hsl := nmStr_size l p i
      go_wp2_with fail
      go_ret2
      exact ⟨rfl, HW.out⟩
end Go.Proofs.YtbekjfoefjnidaaDoor
