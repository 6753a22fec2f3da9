/- Names: what one is (plain); isName of the program: walked. -/
import Derived.Test.YtbekjfoefjnidaaDoorFsQ
import Derived.Laws.RangeAny
import Derived.Laws.Strings
namespace Go.Proofs.YtbekjfoefjnidaaDoor
open Go.RowKit
set_option linter.unusedVariables false
/-- a letter of a name, by its number -/
def letN (b : Int) : Prop := 97 ≤ b ∧ b ≤ 122 ∨ 65 ≤ b ∧ b ≤ 90 ∨ b = 95
def digN (b : Int) : Prop := 48 ≤ b ∧ b ≤ 57
/-- may it stand at this place of a name? -/
def okAt (i : Nat) (b : Int) : Prop := letN b ∨ i ≠ 0 ∧ digN b
def byteAt (s : ByteArray) (i : Nat) : Int := if h : i < s.size then ((s[i]'h).toNat : Int) else 0
theorem byteAt_lt (s : ByteArray) {i : Nat} (h : i < s.size) : byteAt s i = ((s[i]'h).toNat : Int) := dif_pos h
/-- the first k bytes are those of a name -/
def OkTo (s : ByteArray) (k : Nat) : Prop := ∀ i, i < k → okAt i (byteAt s i)
def NameB (s : ByteArray) : Prop := OkTo s s.size ∧ s.size ≠ 0 ∧ s.size ≤ 20
noncomputable def isNm (s : ByteArray) : Bool := @decide (NameB s) (Classical.propDecidable _)
theorem isNm_true {s : ByteArray} (h : NameB s) : isNm s = true := @decide_eq_true _ (Classical.propDecidable _) h
theorem isNm_false {s : ByteArray} (h : ¬ NameB s) : isNm s = false := @decide_eq_false _ (Classical.propDecidable _) h
theorem OkTo.zero (s : ByteArray) : OkTo s 0 := fun i h => absurd h (Nat.not_lt_zero i)
theorem OkTo.succ {s : ByteArray} {k : Nat} (h : OkTo s k) (hk : okAt k (byteAt s k)) : OkTo s (k + 1) := fun i hi => by
  rcases Nat.lt_succ_iff_lt_or_eq.1 hi with h1 | rfl
  · exact h i h1
  · exact hk
theorem isNm_bad {s : ByteArray} {k : Nat} (hk : k < s.size) (h : ¬ okAt k (byteAt s k)) : isNm s = false := isNm_false (fun hn => h (hn.1 k hk))
theorem isNm_ok {s : ByteArray} (h : OkTo s s.size) : isNm s = (decide (s.size ≠ 0) && decide (s.size ≤ 20)) := by
  by_cases h1 : s.size ≠ 0 ∧ s.size ≤ 20
  · rw [isNm_true ⟨h, h1⟩]; simp [h1]
  · rw [isNm_false (fun hn => h1 hn.2)]
    rcases Nat.eq_zero_or_pos s.size with h0 | h0
    · simp [h0]
    · have : ¬ s.size ≤ 20 := fun h2 => h1 ⟨by omega, h2⟩
      simp [this]
theorem nm_len (s : ByteArray) : s.toList.length = s.size := by rw [ByteArray.toList_eq, Array.length_toList]; rfl
theorem iter_below (w : World) (s : ByteArray) (pos : Nat) : Below w.heap.size w (w.iter s pos) := (Below.refl _ _).alloc (Nat.le_refl _) _
set_option maxRecDepth 100000 in
set_option maxHeartbeats 4000000 in
theorem isName49 (s : ByteArray) (w : World) (hs : s.size ≤ maxLen) : Calls Tryd.prog 29 #[.string s] w fun e w' => e = .returned (.bool (isNm s)) ∧ Below w.heap.size w w' := by
  unfold maxLen at hs
  go_enter Tryd.func29, Tryd.ntmps29
  go_wp2
  go_loopw [3] (fun n w' => ∃ pos : Nat, pos ≤ s.size ∧ Hid (OkTo s pos) ∧ w' = w.iter s pos) (fun _ w' => s.size - w'.iterPos w.heap.size)
  case atStart => exact ⟨0, Nat.zero_le _, Lib.hid (OkTo.zero s), rfl⟩
  case round =>
    obtain ⟨pos, hpos, HOK, rfl⟩ := hrel
    by_cases hp : pos < s.size
    · by_cases h128 : (s[pos]'hp).toNat < 128
      · have hnx := fun ty => run_next_ascii (P := Tryd.prog) w s pos ty hp h128
        have HBAD := isNm_bad hp
        have HGO := fun h : okAt pos (byteAt s pos) => HOK.out.succ h
        rw [byteAt_lt s hp] at HBAD HGO
        unfold okAt letN digN at HBAD HGO
        replace HBAD := Lib.hid HBAD
        replace HGO := Lib.hid HGO
        generalize (s[pos]'hp).toNat = b at *
        go_wp2_with fail
        all_goals first
          | (go_ret; clear hnx; refine ⟨(congrArg (fun b => Ending.returned (Value.bool b)) (HBAD.out ?_)).symm, iter_below _ _ _⟩; clear HBAD HGO HOK; rintro ((h | h | h) | h) <;> first | omega | (simp_all <;> omega))
          | skip
        all_goals
          go_roundw
          case rel => refine ⟨pos + 1, by omega, Lib.hid (HGO.out ?_), by first | rfl | simp_all⟩; clear HBAD HGO HOK hnx; first | omega | (simp_all <;> omega)
          case measure => (try simp); omega
      · have hnx := fun ty => run_next_any (P := Tryd.prog) w s pos ty hp
        have hd := decode_high s pos hp (by omega)
        have hd2 := decode_le s pos
        have HBAD := Lib.hid (isNm_bad hp (by rw [byteAt_lt s hp]; unfold okAt letN digN; omega))
        obtain ⟨r, hr⟩ : ∃ x, x = (Utf8.decode s pos).1 := ⟨_, rfl⟩
        obtain ⟨sz, hsz⟩ : ∃ x, x = (Utf8.decode s pos).2 := ⟨_, rfl⟩
        rw [← hr, ← hsz] at hnx
        rw [← hr, ← hsz] at hd
        rw [← hr] at hd2
        clear hr hsz
        obtain ⟨hd1, hd3⟩ := hd
        go_wp2_with fail
        all_goals first
          | (go_ret; exact ⟨(congrArg (fun b => Ending.returned (Value.bool b)) HBAD.out).symm, iter_below _ _ _⟩)
          | (exfalso; clear hnx; first | omega | (simp_all <;> omega))
    · obtain rfl : pos = s.size := by omega
      have hnx := fun ty => run_next_end (P := Tryd.prog) w s s.size ty hp
      have HNM := Lib.hid (isNm_ok HOK.out)
      go_wp2_with fail
      all_goals have HNL := nm_len s
      · rename_i hnil
        go_ret
        rw [hnil] at HNL
        have h0 : s.size = 0 := HNL.symm
        rw [HNM.out, h0]
        exact ⟨rfl, iter_below _ _ _⟩
      · rename_i hnil
        go_ret
        have h0 : s.size ≠ 0 := fun e => hnil (List.eq_nil_of_length_eq_zero (HNL.trans e))
        refine ⟨?_, iter_below _ _ _⟩
        rw [HNM.out]
        cases hc : s.toList
        · exact absurd hc hnil
        · simp [h0]; omega
end Go.Proofs.YtbekjfoefjnidaaDoor
