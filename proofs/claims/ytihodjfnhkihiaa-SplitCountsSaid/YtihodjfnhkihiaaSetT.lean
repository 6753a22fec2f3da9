/- Not, Meet, Less of the program, walked. -/
import Derived.Test.YtihodjfnhkihiaaSetS
namespace Go.Proofs.Ytihodjfnhkihiaa
open Go.RowKit
set_option linter.unusedVariables false
set_option maxRecDepth 100000 in
set_option maxHeartbeats 1000000 in
theorem clo77 (a : List (Int × Int)) (b : Nat) (A : Option Addr) (n c : Nat) (w : World) (hn : n ≤ 100000) (hcan : Can a) (ha : Rds w w.heap.size 2 A n (rngs a)) (hc : w.cell? ⟨b, 0, none⟩ = some (.slice A n c)) :
    Calls Try.prog 52 #[.pointer (some ⟨b, 0, none⟩)] w fun e w' => ∃ out, IsSet out (fun p => 0 ≤ p ∧ p ≤ 1114111 ∧ ¬ mem a p) ∧ out.length ≤ n + 1 ∧ OwnRngs w out e w' := by
  have HA := Lib.hid ha.rngs_len
  have HC := Lib.hid hcan
  clear hcan
  go_enter Try.func52, Try.ntmps52
  go_wp2_with fail
  refine (rawNot78 a A n c w hn HC.out ha).mono ?_
  rintro e w1 ⟨out, hs, hl, A1, n1, c1, rfl, hown, hb⟩
  go_wp2
  go_ret
  exact ⟨out, hs, hl, A1, n1, c1, rfl, hown, hb⟩
set_option maxRecDepth 100000 in
set_option maxHeartbeats 1000000 in
theorem clo81 (a b : List (Int × Int)) (p q : Nat) (A B : Option Addr) (n c m d : Nat) (w : World) (hn : n + m ≤ 100000) (hca : Can a) (hcb : Can b) (ha : Rds w w.heap.size 2 A n (rngs a)) (hb : Rds w w.heap.size 2 B m (rngs b))
    (hp : w.cell? ⟨p, 0, none⟩ = some (.slice A n c)) (hq : w.cell? ⟨q, 0, none⟩ = some (.slice B m d)) :
    Calls Try.prog 34 #[.pointer (some ⟨p, 0, none⟩), .pointer (some ⟨q, 0, none⟩)] w fun e w' => ∃ out, IsSet out (fun p => mem a p ∧ mem b p) ∧ out.length ≤ n + m ∧ OwnRngs w out e w' := by
  have HA := Lib.hid ha.rngs_len
  have HC := Lib.hid hca
  have HB := Lib.hid hcb
  clear hca hcb
  go_enter Try.func34, Try.ntmps34
  go_wp2_with fail
  refine (rawMeet82 a b A B n c m d w hn HC.out HB.out ha hb).mono ?_
  rintro e w1 ⟨out, hs, hl, A1, n1, c1, rfl, hown, hb⟩
  go_wp2
  go_ret
  exact ⟨out, hs, hl, A1, n1, c1, rfl, hown, hb⟩
theorem chk2_ok {a b : List (Int × Int)} (h : chk2 a b = 0) : a.length ≤ 400 ∧ Can a ∧ b.length ≤ 400 ∧ Can b := by
  unfold chk2 at h
  by_cases h0 : chk a = 0
  · rw [if_pos h0] at h
    exact ⟨((chk_ok a).1 h0).1, ((chk_ok a).1 h0).2, ((chk_ok b).1 h).1, ((chk_ok b).1 h).2⟩
  · rw [if_neg h0] at h; exact absurd h h0
set_option maxRecDepth 100000 in
set_option maxHeartbeats 1000000 in
theorem not31 (a : List (Int × Int)) (A : Option Addr) (n c : Nat) (w : World) (hnc : n ≤ c) (hc : c ≤ maxLen) (ha : Rds w w.heap.size 2 A n (rngs a)) :
    Calls Try.prog 32 #[.slice A n c] w (WOut w (fun p => 0 ≤ p ∧ p ≤ 1114111 ∧ ¬ mem a p) (n + 1) (chk a)) := by
  have HA := Lib.hid ha.rngs_len
  have HX := Lib.hid (chkL_one a)
  have EG := Lib.hid (show ∀ args w, (callFunc 52 args).run Try.prog w = .ok (.enter 52 args) w from enters_of Try.func52 (by kernel_rfl) rfl)
  go_enter Try.func32, Try.ntmps32
  go_wp2_with fail
  have hb0 : Below w.heap.size w ((w.alloc (.cells #[.slice A n c] 22)).alloc (.cells #[.slice A n c] 22)) := by go_grown
  have hz : ((w.alloc (.cells #[.slice A n c] 22)).alloc (.cells #[.slice A n c] 22)).heap.size = w.heap.size + 1 + 1 := by simp
  have hbx : ((w.alloc (.cells #[.slice A n c] 22)).alloc (.cells #[.slice A n c] 22)).cell? ⟨w.heap.size, 0, none⟩ = some (.slice A n c) := by
    rw [World.cell?_alloc_lt _ _ _ (by simp)]; simp
  have hrow := (Rds.new (w.alloc (.cells #[.slice A n c] 22)) 1 1 #[.slice A n c] 22 [.slice A n c] rfl rfl)
  rw [show (w.alloc (.cells #[.slice A n c] 22)).heap.size = w.heap.size + 1 by simp] at hrow
  refine (with76 [a] [.slice A n c] (chk a) HX.out _ 1 1 _ (by decide) (hrow.more (by omega)) ((sls_one hnc hc ha).below hb0 (Nat.le_refl _) |>.more (by omega))
    52 #[.pointer (some ⟨w.heap.size, 0, none⟩)] (fun p => 0 ≤ p ∧ p ≤ 1114111 ∧ ¬ mem a p) (n + 1) EG.out ?_).mono ?_
  · intro h0 w' hw
    have hk := (chk_ok a).1 h0
    have hnA := HA.out
    exact clo77 a _ A n c w' (by omega) hk.2 (((ha.below hb0 (Nat.le_refl _)).below hw (by omega)).more (by have := hw.size; omega)) (by rw [hw.cell (p := ⟨w.heap.size, 0, none⟩) (by show w.heap.size < _; omega)]; exact hbx)
  · rintro e w1 ⟨o0, h0, out, A1, n1, c1, rfl, h1, h2, hown, hb⟩
    have HF := Lib.hid (show WOut w (fun p => 0 ≤ p ∧ p ≤ 1114111 ∧ ¬ mem a p) (n + 1) (chk a) _ w1 from ⟨o0, h0, out, A1, n1, c1, rfl, h1, h2, own_mono hown (by omega), hb0.trans (hb.mono (by omega))⟩)
    clear h0 h1 h2
    generalize (if chk a = 0 then if 400 < o0.length then (2 : Int) else 0 else chk a) = E at HF ⊢
    go_wp2
    go_ret2
    exact HF.out
set_option maxRecDepth 100000 in
set_option maxHeartbeats 1000000 in
theorem meet35 (a b : List (Int × Int)) (A B : Option Addr) (n c m d : Nat) (w : World) (hnc : n ≤ c) (hc : c ≤ maxLen) (hmd : m ≤ d) (hd : d ≤ maxLen) (ha : Rds w w.heap.size 2 A n (rngs a)) (hb : Rds w w.heap.size 2 B m (rngs b)) :
    Calls Try.prog 16 #[.slice A n c, .slice B m d] w (WOut w (fun p => mem a p ∧ mem b p) (n + m) (chk2 a b)) := by
  have HA := Lib.hid ha.rngs_len
  have HB := Lib.hid hb.rngs_len
  have HX := Lib.hid (chkL_two a b)
  have EG := Lib.hid (show ∀ args w, (callFunc 34 args).run Try.prog w = .ok (.enter 34 args) w from enters_of Try.func34 (by kernel_rfl) rfl)
  go_enter Try.func16, Try.ntmps16
  go_wp2_with fail
  have hb0 : Below w.heap.size w (((w.alloc (.cells #[.slice A n c] 22)).alloc (.cells #[.slice B m d] 22)).alloc (.cells #[.slice A n c, .slice B m d] 22)) := by go_grown
  have hz : (((w.alloc (.cells #[.slice A n c] 22)).alloc (.cells #[.slice B m d] 22)).alloc (.cells #[.slice A n c, .slice B m d] 22)).heap.size = w.heap.size + 1 + 1 + 1 := by simp
  have hbx : (((w.alloc (.cells #[.slice A n c] 22)).alloc (.cells #[.slice B m d] 22)).alloc (.cells #[.slice A n c, .slice B m d] 22)).cell? ⟨w.heap.size, 0, none⟩ = some (.slice A n c) := by
    rw [World.cell?_alloc_lt _ _ _ (by simp; omega), World.cell?_alloc_lt _ _ _ (by simp)]; simp
  have hby : (((w.alloc (.cells #[.slice A n c] 22)).alloc (.cells #[.slice B m d] 22)).alloc (.cells #[.slice A n c, .slice B m d] 22)).cell? ⟨w.heap.size + 1, 0, none⟩ = some (.slice B m d) := by
    rw [World.cell?_alloc_lt _ _ _ (by simp)]
    have e := (Rds.new (w.alloc (.cells #[.slice A n c] 22)) 1 1 #[.slice B m d] 22 [.slice B m d] rfl rfl).2 (by decide)
    rw [show (w.alloc (.cells #[.slice A n c] 22)).heap.size = w.heap.size + 1 by simp] at e
    obtain ⟨b1, o1, h1, _, h2⟩ := e
    injection h1 with h1
    injection h1 with h1 h3
    subst h1 h3
    exact h2 0 _ rfl
  have hrow := (Rds.new ((w.alloc (.cells #[.slice A n c] 22)).alloc (.cells #[.slice B m d] 22)) 1 2 #[.slice A n c, .slice B m d] 22 [.slice A n c, .slice B m d] rfl rfl)
  rw [show ((w.alloc (.cells #[.slice A n c] 22)).alloc (.cells #[.slice B m d] 22)).heap.size = w.heap.size + 1 + 1 by simp] at hrow
  refine (with76 [a, b] [.slice A n c, .slice B m d] (chk2 a b) HX.out _ 2 2 _ (by decide) (hrow.more (by omega)) ((slsTwo hnc hc ha hmd hd hb).below hb0 (Nat.le_refl _) |>.more (by omega))
    34 #[.pointer (some ⟨w.heap.size, 0, none⟩), .pointer (some ⟨w.heap.size + 1, 0, none⟩)] (fun p => mem a p ∧ mem b p) (n + m) EG.out ?_).mono ?_
  · intro h0 w' hw
    have hk := chk2_ok h0
    have hnA := HA.out
    have hnB := HB.out
    have hs := hw.size
    exact clo81 a b _ _ A B n c m d w' (by omega) hk.2.1 hk.2.2.2 (((ha.below hb0 (Nat.le_refl _)).below hw (by omega)).more (by omega)) (((hb.below hb0 (Nat.le_refl _)).below hw (by omega)).more (by omega)) (by rw [hw.cell (p := ⟨w.heap.size, 0, none⟩) (by show w.heap.size < _; omega)]; exact hbx) (by rw [hw.cell (p := ⟨w.heap.size + 1, 0, none⟩) (by show w.heap.size + 1 < _; omega)]; exact hby)
  · rintro e w1 ⟨o0, h0, out, A1, n1, c1, rfl, h1, h2, hown, hbb⟩
    have HF := Lib.hid (show WOut w (fun p => mem a p ∧ mem b p) (n + m) (chk2 a b) _ w1 from ⟨o0, h0, out, A1, n1, c1, rfl, h1, h2, own_mono hown (by omega), hb0.trans (hbb.mono (by omega))⟩)
    clear h0 h1 h2
    generalize (if chk2 a b = 0 then if 400 < o0.length then (2 : Int) else 0 else chk2 a b) = E at HF ⊢
    go_wp2
    go_ret2
    exact HF.out
end Go.Proofs.Ytihodjfnhkihiaa
