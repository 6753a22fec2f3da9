/-
  The reference's bytes of a point, walked; what each of them is, as a list of numbers.
-/
import Derived.Test.YtlgpnofkfpeacaaBase
namespace Go.Proofs.Ytlgpnofkfpeacaa
open Go.RowKit
set_option linter.unusedVariables false
def unitB (enc u : Int) : List Int := if enc = 2 then [u % 256, u / 256] else [u / 256, u % 256]
def bytesOf (enc p : Int) : List Int :=
  if enc = 4 then [p]
  else if enc = 1 then
    if p < 128 then [p] else if p < 2048 then [192 + p / 64, 128 + p % 64]
    else if p < 65536 then [224 + p / 4096, 128 + p / 64 % 64, 128 + p % 64]
    else [240 + p / 262144, 128 + p / 4096 % 64, 128 + p / 64 % 64, 128 + p % 64]
  else if p < 65536 then unitB enc p else unitB enc (55296 + (p - 65536) / 1024) ++ unitB enc (56320 + (p - 65536) % 1024)

set_option maxHeartbeats 400000 in
theorem unit_any (u enc : Int) (b off : Nat) (w : World) (hc : w.cell? ⟨b, off, none⟩ = some (.int .i64 enc)) (h0 : 0 ≤ u) (h1 : u ≤ 65535) :
    Calls Try.prog 33 #[.int .i64 u, .pointer (some ⟨b, off, none⟩)] w (OwnInts w (unitB enc u)) := by
  by_cases he : enc = 2
  · subst he
    go_enter Try.func33, Try.ntmps33
    go_wp2
    go_ret
    exact ownInts_new rfl rfl rfl rfl (Below.refl _ _) rfl rfl
  · have he' : (enc == 2) = false := by simpa using he
    have hu : unitB enc u = [u / 256, u % 256] := by simp [unitB, he]
    rw [hu]
    clear hu he
    go_enter Try.func33, Try.ntmps33
    go_wp2
    go_ret
    exact ownInts_new rfl rfl rfl rfl (Below.refl _ _) rfl rfl

set_option maxHeartbeats 400000 in
theorem bytesOf4 (p : Int) (w : World) (h0 : 0 ≤ p) (h1 : p ≤ 255) :
    Calls Try.prog 28 #[.int .i64 4, .int .i64 p] w (OwnInts w (bytesOf 4 p)) := by
  have hu : bytesOf 4 p = [p] := by simp [bytesOf]
  rw [hu]
  clear hu
  go_enter Try.func28, Try.ntmps28
  go_wp2
  go_ret
  exact ownInts_new rfl rfl (by simp) rfl ((Below.refl _ _).alloc (Nat.le_refl _) _) rfl rfl

set_option maxHeartbeats 400000 in
theorem bytesOf1 (p : Int) (w : World) (h0 : 0 ≤ p) (h1 : p ≤ 1114111) :
    Calls Try.prog 28 #[.int .i64 1, .int .i64 p] w (OwnInts w (bytesOf 1 p)) := by
  by_cases a : p < 128
  · have hu : bytesOf 1 p = [p] := by simp [bytesOf, a]
    rw [hu]
    clear hu
    go_enter Try.func28, Try.ntmps28
    go_wp2
    go_ret
    exact ownInts_new rfl rfl (by simp) rfl ((Below.refl _ _).alloc (Nat.le_refl _) _) rfl rfl
  · by_cases b : p < 2048
    · have hu : bytesOf 1 p = [192 + p / 64, 128 + p % 64] := by simp [bytesOf, a, b]
      rw [hu]
      clear hu
      go_enter Try.func28, Try.ntmps28
      go_wp2
      go_ret
      exact ownInts_new rfl rfl (by simp) rfl ((Below.refl _ _).alloc (Nat.le_refl _) _) rfl rfl
    · by_cases c : p < 65536
      · have hu : bytesOf 1 p = [224 + p / 4096, 128 + p / 64 % 64, 128 + p % 64] := by simp [bytesOf, a, b, c]
        rw [hu]
        clear hu
        go_enter Try.func28, Try.ntmps28
        go_wp2
        go_ret
        exact ownInts_new rfl rfl (by simp) rfl ((Below.refl _ _).alloc (Nat.le_refl _) _) rfl rfl
      · have hu : bytesOf 1 p = [240 + p / 262144, 128 + p / 4096 % 64, 128 + p / 64 % 64, 128 + p % 64] := by simp [bytesOf, a, b, c]
        rw [hu]
        clear hu
        go_enter Try.func28, Try.ntmps28
        go_wp2
        go_ret
        exact ownInts_new rfl rfl (by simp) rfl ((Below.refl _ _).alloc (Nat.le_refl _) _) rfl rfl
theorem unitB_len (enc u : Int) : (unitB enc u).length = 2 := by unfold unitB; split <;> rfl

set_option maxHeartbeats 400000 in
theorem bytesOf23 (enc p : Int) (w : World) (he : enc = 2 ∨ enc = 3) (h0 : 0 ≤ p) (h1 : p ≤ 1114111) :
    Calls Try.prog 28 #[.int .i64 enc, .int .i64 p] w (OwnInts w (bytesOf enc p)) := by
  have e4 : (enc == 4) = false := by rw [beq_eq_false_iff_ne]; omega
  have e1 : (enc == 1) = false := by rw [beq_eq_false_iff_ne]; omega
  by_cases a : p < 65536
  · have hu : bytesOf enc p = unitB enc p := by simp [bytesOf, a, show ¬ enc = 4 from by omega, show ¬ enc = 1 from by omega]
    rw [hu]
    clear hu he
    go_enter Try.func28, Try.ntmps28
    go_wp2_with fail
    refine (unit_any p enc _ _ _ (by simp) h0 (by omega)).mono ?_
    rintro e w1 ⟨A, n, c, rfl, hown, hb⟩
    go_wp2
    go_ret
    exact ⟨A, n, c, rfl, own_mono hown (by simp), ((Below.refl _ _).alloc (Nat.le_refl _) _).trans (hb.mono (by simp))⟩
  · have hu : bytesOf enc p = unitB enc (55296 + (p - 65536) / 1024) ++ unitB enc (56320 + (p - 65536) % 1024) := by simp [bytesOf, a, show ¬ enc = 4 from by omega, show ¬ enc = 1 from by omega]
    rw [hu]
    clear hu he
    go_enter Try.func28, Try.ntmps28
    go_wp2_with fail
    refine (unit_any _ enc _ _ _ (by simp) (by omega) (by omega)).mono ?_
    rintro e w1 ⟨A, n, c, rfl, hown, hb⟩
    have hc1 : w1.cell? ⟨w.heap.size, 0, none⟩ = some (.int .i64 enc) := by rw [hb.cell (p := ⟨w.heap.size, 0, none⟩) (by simp)]; simp
    have hz1 : w.heap.size + 1 ≤ w1.heap.size := by have := hb.size; simpa using this
    go_wp2_with fail
    refine (unit_any _ enc _ _ _ hc1 (by omega) (by omega)).mono ?_
    rintro e w2 ⟨A2, n2, c2, rfl, hown2, hb2⟩
    have hz2 : w1.heap.size ≤ w2.heap.size := hb2.size
    have L1 : n ≤ 2 := by rw [own_ints_len hown, unitB_len]; omega
    have L2 : n2 ≤ 2 := by rw [own_ints_len hown2, unitB_len]; omega
    have hown1' := own_mono (own_below hown hb2 (by omega)) (base' := w.heap.size) (by simp)
    clear hown hc1
    go_wp2_with (at_builtin; refine app_ints (.tmp 82) (.tmp 88) hown1' (Rds.of_own hown2) (by omega) (by omega) rfl rfl rfl rfl ?_; intro v3 w3 hown3 hg3 hat3)
    go_ret
    have B1 : Below w.heap.size w w2 := (((Below.refl _ _).alloc (Nat.le_refl _) _).trans (hb.mono (by simp))).trans (hb2.mono (by omega))
    exact ownInts_of rfl hown3 (grown_own B1 hown1' hg3 (Nat.le_refl _) (by omega))

theorem bytesOf_any (enc p : Int) (w : World) (he : enc = 1 ∨ enc = 2 ∨ enc = 3 ∨ enc = 4) (h0 : 0 ≤ p) (h1 : p ≤ 1114111) (h4 : enc = 4 → p ≤ 255) :
    Calls Try.prog 28 #[.int .i64 enc, .int .i64 p] w (OwnInts w (bytesOf enc p)) := by
  rcases he with rfl | rfl | rfl | rfl
  · exact bytesOf1 p w h0 h1
  · exact bytesOf23 2 p w (by omega) h0 h1
  · exact bytesOf23 3 p w (by omega) h0 h1
  · exact bytesOf4 p w h0 (h4 rfl)
end Go.Proofs.Ytlgpnofkfpeacaa
