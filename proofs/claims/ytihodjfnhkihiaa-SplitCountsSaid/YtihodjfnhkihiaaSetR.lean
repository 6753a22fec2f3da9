/- Make of the program, walked. -/
import Derived.Test.YtihodjfnhkihiaaSetQ
import Derived.Test.YtihodjfnhkihiaaSetH
import Derived.Test.YtihodjfnhkihiaaSetP
import Derived.Test.YtihodjfnhkihiaaSetJ
import Derived.Test.YtihodjfnhkihiaaSetK
import Derived.Test.YtihodjfnhkihiaaSetM
namespace Go.Proofs.Ytihodjfnhkihiaa
open Go.RowKit
set_option linter.unusedVariables false
/-- a set and an errno handed back: with an errno there is no set. -/
def ROut (w : World) (f : Int → Prop) (k : Nat) (x : Int) (e : Ending) (w' : World) : Prop :=
  ∃ out A n c, e = .returned (.tuple #[.slice A n c, .int .i64 x]) ∧ (x = 0 → IsSet out f ∧ out.length ≤ k) ∧ (x ≠ 0 → out = []) ∧ w'.ownsRow w.heap.size 31 2 (.slice A n c) n (rngs out) ∧ Below w.heap.size w w'
theorem ROut.err {w w' : World} {f : Int → Prop} {k : Nat} {x : Int} {e : Ending} (he : e = .returned (.tuple #[.slice none 0 0, .int .i64 x])) (hx : x ≠ 0) (hb : Below w.heap.size w w') : ROut w f k x e w' :=
  ⟨[], none, 0, 0, he, fun h => absurd h hx, fun _ => rfl, World.ownsRow_nil _ _ _ _, hb⟩
set_option maxHeartbeats 1000000 in
theorem make26 (l : List (Int × Int)) (x : Int) (hx : rangesE l = x) (A : Option Addr) (n c : Nat) (w : World) (hn : n ≤ maxLen) (ha : Rds w w.heap.size 2 A n (rngs l)) :
    Calls Try.prog 31 #[.slice A n c] w (ROut w (mem l) n x) := by
  have C := Lib.hid (fun w ha => ranges71 l x hx A n c w hn ha)
  have HA := Lib.hid ha.rngs_len
  have HX := Lib.hid hx
  clear hx
  have hn' := hn
  unfold maxLen at hn
  by_cases h0 : x = 0
  · subst h0
    obtain ⟨h1, h2⟩ := (rangesE_ok l).1 HX.out
    have HOK := Lib.hid h2
    clear h2
    rw [HA.out] at h1
    go_enter Try.func31, Try.ntmps31
    go_wp2_with fail
    refine (C.out _ ha).mono ?_
    rintro e w1 ⟨rfl, hb⟩
    have hz := hb.size
    go_wp2_with fail
    refine (raw72 (Lib.hid sortC) l A n c w1 (by omega) HOK.out ((ha.below hb (Nat.le_refl _)).more hz)).mono ?_
    rintro e w2 ⟨out, hset, hlen, A2, n2, c2, rfl, hown, hb2⟩
    go_wp2
    go_ret2
    exact ⟨out, A2, n2, c2, rfl, fun _ => ⟨hset, hlen⟩, fun h => absurd rfl h, own_mono hown hz, hb.trans (hb2.mono hz)⟩
  · have H0 : (x == 0) = false := by rw [beq_eq_false_iff_ne]; exact h0
    have H := Lib.hid h0
    clear h0
    go_enter Try.func31, Try.ntmps31
    go_wp2_with fail
    refine (C.out _ ha).mono ?_
    rintro e w1 ⟨rfl, hb⟩
    go_wp2
    go_ret2
    exact ROut.err rfl H.out hb
end Go.Proofs.Ytihodjfnhkihiaa
