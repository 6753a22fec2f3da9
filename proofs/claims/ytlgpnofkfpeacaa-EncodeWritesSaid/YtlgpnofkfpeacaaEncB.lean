/-
  The program bytes of a point, walked, but for pairs of 16 bits.
-/
import Derived.Test.YtlgpnofkfpeacaaEncA
namespace Go.Proofs.Ytlgpnofkfpeacaa
open Go.RowKit
set_option linter.unusedVariables false
theorem own_nil_bytes (w : World) (B : Nat) : w.ownsRow B 5 1 (.slice none 0 0) 0 (byts []) := World.ownsRow_nil w B 5 1
set_option maxHeartbeats 400000 in
theorem rune4 (p : Int) (w : World) (h0 : 65536 ≤ p) (h1 : p ≤ 1114111) :
    Calls Try.prog 54 #[.slice none 0 0, .int .i32 p] w (OwnBytes w [240 + p / 262144, 128 + p / 4096 % 64, 128 + p / 64 % 64, 128 + p % 64]) := by
  have R := Lib.hid (Rds.new w 1 4 #[.int .u8 (240 + p / 262144), .int .u8 (128 + p / 4096 % 64), .int .u8 (128 + p / 64 % 64), .int .u8 (128 + p % 64)] 5 (byts [240 + p / 262144, 128 + p / 4096 % 64, 128 + p / 64 % 64, 128 + p % 64]) rfl rfl)
  go_enter Try.func54, Try.ntmps54
  go_wp2_with (at_builtin; refine app_bytes (.tmp 57) (.tmp 76) (own_nil_bytes _ w.heap.size) (R.out) (by omega) (by simp) rfl rfl rfl rfl ?_; intro v3 w3 hown3 hg3 hat3)
  go_ret
  exact ownBytes_of rfl hown3 (((Below.refl _ _).alloc (Nat.le_refl _) _).grown hg3 (by simp) (by simp [Value.ownBlock]))
set_option maxHeartbeats 400000 in
theorem rune3 (p : Int) (w : World) (h0 : 2048 ≤ p) (h1 : p ≤ 65535) (h2 : p < 55296 ∨ 57343 < p) :
    Calls Try.prog 54 #[.slice none 0 0, .int .i32 p] w (OwnBytes w [224 + p / 4096, 128 + p / 64 % 64, 128 + p % 64]) := by
  have R := Lib.hid (Rds.new w 1 3 #[.int .u8 (224 + p / 4096), .int .u8 (128 + p / 64 % 64), .int .u8 (128 + p % 64)] 5 (byts [224 + p / 4096, 128 + p / 64 % 64, 128 + p % 64]) rfl rfl)
  rcases h2 with h2 | h2
  all_goals
    go_enter Try.func54, Try.ntmps54
    go_wp2_with (at_builtin; refine app_bytes (.tmp 34) (.tmp 48) (own_nil_bytes _ w.heap.size) (R.out) (by omega) (by simp) rfl rfl rfl rfl ?_; intro v3 w3 hown3 hg3 hat3)
    go_ret
    exact ownBytes_of rfl hown3 (((Below.refl _ _).alloc (Nat.le_refl _) _).grown hg3 (by simp) (by simp [Value.ownBlock]))
set_option maxHeartbeats 400000 in
theorem rune2 (p : Int) (w : World) (h0 : 128 ≤ p) (h1 : p ≤ 2047) :
    Calls Try.prog 54 #[.slice none 0 0, .int .i32 p] w (OwnBytes w [192 + p / 64, 128 + p % 64]) := by
  have R := Lib.hid (Rds.new w 1 2 #[.int .u8 (192 + p / 64), .int .u8 (128 + p % 64)] 5 (byts [192 + p / 64, 128 + p % 64]) rfl rfl)
  go_enter Try.func54, Try.ntmps54
  go_wp2_with (at_builtin; refine app_bytes (.tmp 14) (.tmp 23) (own_nil_bytes _ w.heap.size) (R.out) (by omega) (by simp) rfl rfl rfl rfl ?_; intro v3 w3 hown3 hg3 hat3)
  go_ret
  exact ownBytes_of rfl hown3 (((Below.refl _ _).alloc (Nat.le_refl _) _).grown hg3 (by simp) (by simp [Value.ownBlock]))
theorem rune_any (p : Int) (w : World) (h0 : 128 ≤ p) (h1 : p ≤ 1114111) (h2 : p < 55296 ∨ 57343 < p) :
    Calls Try.prog 54 #[.slice none 0 0, .int .i32 p] w (OwnBytes w (bytesOf 1 p)) := by
  have e : bytesOf 1 p = if p < 128 then [p] else if p < 2048 then [192 + p / 64, 128 + p % 64] else if p < 65536 then [224 + p / 4096, 128 + p / 64 % 64, 128 + p % 64]
    else [240 + p / 262144, 128 + p / 4096 % 64, 128 + p / 64 % 64, 128 + p % 64] := by simp [bytesOf]
  rw [e, if_neg (by omega)]
  by_cases a : p < 2048
  · rw [if_pos a]; exact rune2 p w h0 (by omega)
  · rw [if_neg a]
    by_cases b : p < 65536
    · rw [if_pos b]; exact rune3 p w (by omega) (by omega) h2
    · rw [if_neg b]; exact rune4 p w (by omega) h1
set_option maxHeartbeats 400000 in
theorem appendRune_any (p : Int) (w : World) (h0 : 0 ≤ p) (h1 : p ≤ 1114111) (h2 : p < 55296 ∨ 57343 < p) :
    Calls Try.prog 52 #[.slice none 0 0, .int .i32 p] w (OwnBytes w (bytesOf 1 p)) := by
  have H2 := Lib.hid h2
  clear h2
  by_cases a : p < 128
  · have e : bytesOf 1 p = [p] := by simp [bytesOf, a]
    rw [e]
    clear e
    have R := Lib.hid (Rds.new w 1 1 #[.int .u8 p] 5 (byts [p]) rfl rfl)
    go_enter Try.func52, Try.ntmps52
    go_wp2_with (at_builtin; refine app_bytes (.tmp 8) (.tmp 11) (own_nil_bytes _ w.heap.size) (R.out) (by omega) (by simp) rfl rfl rfl rfl ?_; intro v3 w3 hown3 hg3 hat3)
    go_ret
    exact ownBytes_of rfl hown3 (((Below.refl _ _).alloc (Nat.le_refl _) _).grown hg3 (by simp) (by simp [Value.ownBlock]))
  · go_enter Try.func52, Try.ntmps52
    go_wp2_with (go_at_call 54; refine (rune_any _ _ (by omega) h1 H2.out).mono ?_; rintro e w1 ⟨A, n, c, rfl, hown, hb⟩)
    go_ret
    exact ⟨A, n, c, rfl, hown, hb⟩
set_option maxHeartbeats 400000 in
theorem bytes1 (p : Int) (w : World) (h0 : 0 ≤ p) (h1 : p ≤ 1114111) (h2 : p < 55296 ∨ 57343 < p) :
    Calls Try.prog 49 #[.agg #[], .int .i64 p] w (OwnBytes w (bytesOf 1 p)) := by
  have H2 := Lib.hid h2
  clear h2
  go_enter Try.func49, Try.ntmps49
  go_wp2_with (go_at_call 52; refine (appendRune_any _ _ (by omega) h1 H2.out).mono ?_; rintro e w1 ⟨A, n, c, rfl, hown, hb⟩)
  go_ret
  exact ⟨A, n, c, rfl, own_mono hown (by simp), ((Below.refl _ _).alloc (Nat.le_refl _) _).trans (hb.mono (by simp))⟩
set_option maxHeartbeats 400000 in
theorem bytes4 (p : Int) (w : World) (h0 : 0 ≤ p) (h1 : p ≤ 255)  :
    Calls Try.prog 61 #[.agg #[], .int .i64 p] w (OwnBytes w (bytesOf 4 p)) := by
  have e : bytesOf 4 p = [p] := by simp [bytesOf]
  rw [e]
  clear e
  go_enter Try.func61, Try.ntmps61
  go_wp2
  go_ret
  exact ownBytes_new rfl rfl (by simp) rfl ((Below.refl _ _).alloc (Nat.le_refl _) _) rfl rfl
set_option maxHeartbeats 400000 in
theorem put_any (little : Bool) (u : Int) (w : World) (h0 : 0 ≤ u) (h1 : u ≤ 65535)  :
    Calls Try.prog 59 #[.agg #[.bool little], .int .i64 u] w (OwnBytes w (unitB (if little then 2 else 3) u)) := by
  cases little
  · show Calls Try.prog 59 #[.agg #[.bool false], .int .i64 u] w (OwnBytes w [u / 256, u % 256])
    go_enter Try.func59, Try.ntmps59
    go_wp2
    go_ret
    exact ownBytes_new rfl rfl (by simp) rfl ((Below.refl _ _).alloc (Nat.le_refl _) _) rfl rfl
  · show Calls Try.prog 59 #[.agg #[.bool true], .int .i64 u] w (OwnBytes w [u % 256, u / 256])
    go_enter Try.func59, Try.ntmps59
    go_wp2
    go_ret
    exact ownBytes_new rfl rfl (by simp) rfl ((Below.refl _ _).alloc (Nat.le_refl _) _) rfl rfl
end Go.Proofs.Ytlgpnofkfpeacaa
