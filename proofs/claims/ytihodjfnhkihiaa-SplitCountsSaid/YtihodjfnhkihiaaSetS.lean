/- with, and Check of the program, walked. -/
import Derived.Test.YtihodjfnhkihiaaSetR
namespace Go.Proofs.Ytihodjfnhkihiaa
open Go.RowKit
set_option linter.unusedVariables false
/-- what set's functions hand back: more than 400 ranges are too many. -/
def WOut (w : World) (f : Int → Prop) (k : Nat) (x : Int) (e : Ending) (w' : World) : Prop :=
  ∃ (out0 : List (Int × Int)), (x = 0 → IsSet out0 f ∧ out0.length ≤ k) ∧ ROut w f k (if x = 0 then (if 400 < out0.length then 2 else 0) else x) e w'
theorem WOut.err {w w' : World} {f : Int → Prop} {k : Nat} {x : Int} {e : Ending} (he : e = .returned (.tuple #[.slice none 0 0, .int .i64 x])) (hx : x ≠ 0) (hb : Below w.heap.size w w') : WOut w f k x e w' :=
  ⟨[], fun h => absurd h hx, by rw [if_neg hx]; exact ROut.err he hx hb⟩
set_option maxHeartbeats 1000000 in
theorem with76 (ls : List (List (Int × Int))) (vs : List Value) (x : Int) (hx : chkL ls = x) (A : Option Addr) (n c : Nat) (w : World) (hn : n ≤ maxLen) (hv : Rds w w.heap.size 1 A n vs) (hs : Sls w w.heap.size vs ls)
    (g : Nat) (cb : Array Value) (f : Int → Prop) (k : Nat)
    (eg : ∀ args w, (callFunc g args).run Try.prog w = .ok (.enter g args) w)
    (hdo : x = 0 → ∀ w', Below w.heap.size w w' → Calls Try.prog g cb w' fun e w'' => ∃ out, IsSet out f ∧ out.length ≤ k ∧ OwnRngs w' out e w'') :
    Calls Try.prog 33 #[.func (.func g) #[] cb, .slice A n c] w (WOut w f k x) := by
  have HDO := Lib.hid hdo
  have C := Lib.hid (check80 ls vs A n c)
  rw [hx] at C
  clear hx hdo
  by_cases h0 : x = 0
  · subst h0
    go_enter Try.func33, Try.ntmps33
    go_wp2_with fail
    refine (C.out _ hn hv hs).mono ?_
    rintro e w1 ⟨rfl, hb⟩
    have hz := hb.size
    go_wp2_with fail
    refine (HDO.out (by trivial) w1 hb).mono ?_
    rintro e w2 ⟨out, hset, hlen, A2, n2, c2, rfl, hown, hb2⟩
    have HL := Lib.hid (own_rngs_len hown)
    have HS := Lib.hid hset
    have HK := Lib.hid hlen
    clear hset hlen
    by_cases hbig : 400 < n2
    · go_wp2_with fail
      refine (done_many A2 n2 c2 w2 hbig).mono ?_
      rintro e w3 ⟨rfl, rfl⟩
      go_wp2
      go_ret2
      exact ⟨out, fun _ => ⟨HS.out, HK.out⟩, by rw [if_pos rfl, if_pos (by rw [← HL.out]; exact hbig)]; exact ROut.err rfl (by decide) (hb.trans (hb2.mono hz))⟩
    · go_wp2_with fail
      refine (done_ok A2 n2 c2 w2 (by omega)).mono ?_
      rintro e w3 ⟨rfl, rfl⟩
      go_wp2
      go_ret2
      exact ⟨out, fun _ => ⟨HS.out, HK.out⟩, by rw [if_pos rfl, if_neg (by rw [← HL.out]; exact hbig)]; exact ⟨out, A2, n2, c2, rfl, fun _ => ⟨HS.out, HK.out⟩, fun h => absurd rfl h, own_mono hown hz, hb.trans (hb2.mono hz)⟩⟩
  · have H0 : (x == 0) = false := by rw [beq_eq_false_iff_ne]; exact h0
    have H := Lib.hid h0
    clear h0
    go_enter Try.func33, Try.ntmps33
    go_wp2_with fail
    refine (C.out _ hn hv hs).mono ?_
    rintro e w1 ⟨rfl, hb⟩
    go_wp2
    go_ret2
    exact WOut.err rfl H.out hb
theorem chkL_two (a b : List (Int × Int)) : chkL [a, b] = chk2 a b := by
  simp only [chkL, chk2]; split <;> (try split) <;> simp_all
theorem slsTwo {w : World} {X n c m d : Nat} {A B : Option Addr} {a b : List (Int × Int)} (hnc : n ≤ c) (hc : c ≤ maxLen) (h : Rds w X 2 A n (rngs a)) (hmd : m ≤ d) (hd : d ≤ maxLen) (h2 : Rds w X 2 B m (rngs b)) :
    Sls w X [.slice A n c, .slice B m d] [a, b] :=
  ⟨rfl, fun k h1 h2' => by
    have hk : k = 0 ∨ k = 1 := by simp at h1; omega
    rcases hk with rfl | rfl
    · exact ⟨A, n, c, rfl, hnc, hc, h⟩
    · exact ⟨B, m, d, rfl, hmd, hd, h2⟩⟩
set_option maxHeartbeats 1000000 in
theorem check34 (a : List (Int × Int)) (A : Option Addr) (n c : Nat) (w : World) (hnc : n ≤ c) (hc : c ≤ maxLen) (ha : Rds w w.heap.size 2 A n (rngs a)) :
    Calls Try.prog 18 #[.slice A n c] w fun e w' => e = .returned (.int .i64 (chk a)) ∧ Below w.heap.size w w' := by
  have HA := Lib.hid ha.rngs_len
  go_enter Try.func18, Try.ntmps18
  go_wp2_with fail
  have hb0 : Below w.heap.size w (w.alloc (.cells #[.slice A n c] 22)) := by go_grown
  refine (check80 [a] [.slice A n c] _ _ _ _ (by decide) ((Rds.new w 1 1 #[.slice A n c] 22 [.slice A n c] rfl rfl).more (by simp)) ((sls_one hnc hc ha).below hb0 (Nat.le_refl _) |>.more (by simp))).mono ?_
  rintro e w1 ⟨rfl, hb⟩
  go_wp2
  go_ret
  exact ⟨ret_int (chkL_one a), hb0.trans (hb.mono (by simp))⟩
end Go.Proofs.Ytihodjfnhkihiaa
