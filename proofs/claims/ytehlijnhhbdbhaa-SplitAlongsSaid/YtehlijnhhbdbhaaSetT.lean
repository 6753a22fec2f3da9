/- Not, Meet, Less of the program, walked. -/
import Derived.Test.YtehlijnhhbdbhaaSetS
namespace Go.Proofs.Ytehlijnhhbdbhaa
open Go.RowKit
set_option linter.unusedVariables false
set_option maxRecDepth 100000 in
set_option maxHeartbeats 1000000 in
theorem clo77 (a : List (Int × Int)) (b : Nat) (A : Option Addr) (n c : Nat) (w : World) (hn : n ≤ 100000) (hcan : Can a) (ha : Rds w w.heap.size 2 A n (rngs a)) (hc : w.cell? ⟨b, 0, none⟩ = some (.slice A n c)) :
    Calls Try.prog 77 #[.pointer (some ⟨b, 0, none⟩)] w fun e w' => ∃ out, IsSet out (fun p => 0 ≤ p ∧ p ≤ 1114111 ∧ ¬ mem a p) ∧ out.length ≤ n + 1 ∧ OwnRngs w out e w' := by
  have HA := Lib.hid ha.rngs_len
  have HC := Lib.hid hcan
  clear hcan
  go_enter Try.func77, Try.ntmps77
  go_wp2_with fail
  refine (rawNot78 a A n c w hn HC.out ha).mono ?_
  rintro e w1 ⟨out, hs, hl, A1, n1, c1, rfl, hown, hb⟩
  go_wp2
  go_ret
  exact ⟨out, hs, hl, A1, n1, c1, rfl, hown, hb⟩
set_option maxRecDepth 100000 in
set_option maxHeartbeats 1000000 in
theorem clo81 (a b : List (Int × Int)) (p q : Nat) (A B : Option Addr) (n c m d : Nat) (w : World) (hn : n + m ≤ 100000) (hca : Can a) (hcb : Can b) (ha : Rds w w.heap.size 2 A n (rngs a)) (hb : Rds w w.heap.size 2 B m (rngs b))
    (hp : w.cell? ⟨p, 0, none⟩ = some (.slice A n c)) (hq : w.cell? ⟨q, 0, none⟩ = some (.slice B m d)) :
    Calls Try.prog 81 #[.pointer (some ⟨p, 0, none⟩), .pointer (some ⟨q, 0, none⟩)] w fun e w' => ∃ out, IsSet out (fun p => mem a p ∧ mem b p) ∧ out.length ≤ n + m ∧ OwnRngs w out e w' := by
  have HA := Lib.hid ha.rngs_len
  have HC := Lib.hid hca
  have HB := Lib.hid hcb
  clear hca hcb
  go_enter Try.func81, Try.ntmps81
  go_wp2_with fail
  refine (rawMeet82 a b A B n c m d w hn HC.out HB.out ha hb).mono ?_
  rintro e w1 ⟨out, hs, hl, A1, n1, c1, rfl, hown, hb⟩
  go_wp2
  go_ret
  exact ⟨out, hs, hl, A1, n1, c1, rfl, hown, hb⟩
set_option maxRecDepth 100000 in
set_option maxHeartbeats 1000000 in
theorem clo84 (a b : List (Int × Int)) (p q : Nat) (A B : Option Addr) (n c m d : Nat) (w : World) (hn : n + m ≤ 90000) (hca : Can a) (hcb : Can b) (ha : Rds w w.heap.size 2 A n (rngs a)) (hb : Rds w w.heap.size 2 B m (rngs b))
    (hp : w.cell? ⟨p, 0, none⟩ = some (.slice A n c)) (hq : w.cell? ⟨q, 0, none⟩ = some (.slice B m d)) (hpl : p < w.heap.size) (hql : q < w.heap.size) :
    Calls Try.prog 84 #[.pointer (some ⟨p, 0, none⟩), .pointer (some ⟨q, 0, none⟩)] w fun e w' => ∃ out, IsSet out (fun p => mem a p ∧ ¬ mem b p) ∧ out.length ≤ n + m + 1 ∧ OwnRngs w out e w' := by
  have HA := Lib.hid ha.rngs_len
  have HC := Lib.hid hca
  have HB := Lib.hid hcb
  clear hca hcb
  go_enter Try.func84, Try.ntmps84
  go_wp2_with fail
  have C78 : Hid (∀ (w' : World), Below w.heap.size w w' → Calls Try.prog 78 #[.slice B m d] w' fun e w'' => ∃ out A1 n1 c1, e = .returned (.slice A1 n1 c1) ∧ Hid ((IsSet out fun p => 0 ≤ p ∧ p ≤ 1114111 ∧ ¬ mem b p) ∧ out.length ≤ m + 1 ∧ w''.ownsRow w.heap.size 44 2 (.slice A1 n1 c1) n1 (rngs out)) ∧ Hid (Below w.heap.size w w'')) := Lib.hid (fun w' hw => by
    refine (rawNot78 b B m d w' (by omega) HB.out ((hb.below hw (Nat.le_refl _)).more hw.size)).mono ?_
    rintro e w1 ⟨out, hs, hl, A1, n1, c1, rfl, hown, hb1⟩
    exact ⟨out, A1, n1, c1, rfl, Lib.hid ⟨hs, hl, own_mono hown hw.size⟩, Lib.hid (hw.trans (hb1.mono hw.size))⟩)
  have C82 : Hid (∀ (out : List (Int × Int)) (A1 : Option Addr) (n1 c1 : Nat) (w' : World), ((IsSet out fun p => 0 ≤ p ∧ p ≤ 1114111 ∧ ¬ mem b p) ∧ out.length ≤ m + 1 ∧ w'.ownsRow w.heap.size 44 2 (.slice A1 n1 c1) n1 (rngs out)) → Below w.heap.size w w' →
      Calls Try.prog 82 #[.slice A n c, .slice A1 n1 c1] w' fun e w'' => ∃ z A1 n1 c1, e = .returned (.slice A1 n1 c1) ∧ Hid ((IsSet z fun p => mem a p ∧ mem out p) ∧ z.length ≤ n + out.length ∧ w''.ownsRow w.heap.size 44 2 (.slice A1 n1 c1) n1 (rngs z)) ∧ Hid (Below w.heap.size w w'')) := Lib.hid (fun out A1 n1 c1 w' hs hw => by
    have hl := own_rngs_len hs.2.2
    refine (rawMeet82 a out A A1 n c n1 c1 w' (by omega) HC.out hs.1.1 ((ha.below hw (Nat.le_refl _)).more hw.size) (Rds.of_own hs.2.2)).mono ?_
    rintro e w1 ⟨z, hz, hzl, A2, n2, c2, rfl, hown, hb1⟩
    exact ⟨z, A2, n2, c2, rfl, Lib.hid ⟨hz, by omega, own_mono hown hw.size⟩, Lib.hid (hw.trans (hb1.mono hw.size))⟩)
  have KP := Lib.hid (fun (w' : World) (hw : Below w.heap.size w w') => show Below w.heap.size w w' ∧ w'.cell? ⟨p, 0, none⟩ = some (.slice A n c) ∧ w'.cell? ⟨q, 0, none⟩ = some (.slice B m d) from ⟨hw, by rw [hw.cell (p := ⟨p, 0, none⟩) hpl]; exact hp, by rw [hw.cell (p := ⟨q, 0, none⟩) hql]; exact hq⟩)
  go_region_held3 (fun w' => Below w.heap.size w w' ∧ w'.cell? ⟨p, 0, none⟩ = some (.slice A n c) ∧ w'.cell? ⟨q, 0, none⟩ = some (.slice B m d))
    (first
      | (exact KP.out _ (below_drewN (Below.refl _ _) 1))
      | (exact KP.out _ (hbz.out))
      | (exact KP.out _ (hby.out))
      | (go_split_ands; exact KP.out _ (below_drewN hbz.out 1))
      | (go_split_ands; exact KP.out _ (below_drewN hby.out 1))
      | go_keep)
    (first
      | (go_split_ands; go_at_call 78; refine (C78.out _ (by assumption)).mono ?_; rintro e w1 ⟨out, A1, n1, c1, rfl, HO, hby⟩)
      | (go_split_ands; go_at_call 82; refine (C82.out _ _ _ _ _ HO.out (by assumption)).mono ?_; rintro e w2 ⟨z, A2, n2, c2, rfl, HZ, hbz⟩))
  all_goals
    go_wp2
    go_ret
    refine ⟨z, ⟨HZ.out.1.1, fun x => ?_⟩, by have h1 := HZ.out.2.1; have h2 := HO.out.2.1; omega, A2, n2, c2, rfl, HZ.out.2.2, hbz.out⟩
    refine (HZ.out.1.2 x).trans ?_
    show (mem a x ∧ mem out x) ↔ (mem a x ∧ ¬ mem b x)
    constructor
    · rintro ⟨k1, k2⟩; exact ⟨k1, (((HO.out.1.2 x).1 k2).2.2)⟩
    · rintro ⟨k1, k2⟩; have kr := HC.out.mem_range k1; exact ⟨k1, (HO.out.1.2 x).2 ⟨kr.1, kr.2, k2⟩⟩
theorem chk2_ok {a b : List (Int × Int)} (h : chk2 a b = 0) : a.length ≤ 400 ∧ Can a ∧ b.length ≤ 400 ∧ Can b := by
  unfold chk2 at h
  by_cases h0 : chk a = 0
  · rw [if_pos h0] at h
    exact ⟨((chk_ok a).1 h0).1, ((chk_ok a).1 h0).2, ((chk_ok b).1 h).1, ((chk_ok b).1 h).2⟩
  · rw [if_neg h0] at h; exact absurd h h0
set_option maxRecDepth 100000 in
set_option maxHeartbeats 1000000 in
theorem not31 (a : List (Int × Int)) (A : Option Addr) (n c : Nat) (w : World) (hnc : n ≤ c) (hc : c ≤ maxLen) (ha : Rds w w.heap.size 2 A n (rngs a)) :
    Calls Try.prog 31 #[.slice A n c] w (WOut w (fun p => 0 ≤ p ∧ p ≤ 1114111 ∧ ¬ mem a p) (n + 1) (chk a)) := by
  have HA := Lib.hid ha.rngs_len
  have HX := Lib.hid (chkL_one a)
  have EG := Lib.hid (show ∀ args w, (callFunc 77 args).run Try.prog w = .ok (.enter 77 args) w from enters_of Try.func77 (by kernel_rfl) rfl)
  go_enter Try.func31, Try.ntmps31
  go_wp2_with fail
  have hb0 : Below w.heap.size w ((w.alloc (.cells #[.slice A n c] 22)).alloc (.cells #[.slice A n c] 22)) := by go_grown
  have hz : ((w.alloc (.cells #[.slice A n c] 22)).alloc (.cells #[.slice A n c] 22)).heap.size = w.heap.size + 1 + 1 := by simp
  have hbx : ((w.alloc (.cells #[.slice A n c] 22)).alloc (.cells #[.slice A n c] 22)).cell? ⟨w.heap.size, 0, none⟩ = some (.slice A n c) := by
    rw [World.cell?_alloc_lt _ _ _ (by simp)]; simp
  have hrow := (Rds.new (w.alloc (.cells #[.slice A n c] 22)) 1 1 #[.slice A n c] 22 [.slice A n c] rfl rfl)
  rw [show (w.alloc (.cells #[.slice A n c] 22)).heap.size = w.heap.size + 1 by simp] at hrow
  refine (with76 [a] [.slice A n c] (chk a) HX.out _ 1 1 _ (by decide) (hrow.more (by omega)) ((sls_one hnc hc ha).below hb0 (Nat.le_refl _) |>.more (by omega))
    77 #[.pointer (some ⟨w.heap.size, 0, none⟩)] (fun p => 0 ≤ p ∧ p ≤ 1114111 ∧ ¬ mem a p) (n + 1) EG.out ?_).mono ?_
  · intro h0 w' hw
    have hk := (chk_ok a).1 h0
    have hnA := HA.out
    exact clo77 a _ A n c w' (by omega) hk.2 (((ha.below hb0 (Nat.le_refl _)).below hw (by omega)).more (by have := hw.size; omega)) (by rw [hw.cell (p := ⟨w.heap.size, 0, none⟩) (by show w.heap.size < _; omega)]; exact hbx)
  · rintro e w1 ⟨o0, h0, out, A1, n1, c1, rfl, h1, h2, hown, hb⟩
    have HF := Lib.hid (show WOut w (fun p => 0 ≤ p ∧ p ≤ 1114111 ∧ ¬ mem a p) (n + 1) (chk a) _ w1 from ⟨o0, h0, out, A1, n1, c1, rfl, h1, h2, own_mono hown (by omega), hb0.trans (hb.mono (by omega))⟩)
    clear h0 h1 h2
    generalize (if chk a = 0 then if 400 < o0.length then (2 : Int) else 0 else chk a) = E at HF ⊢
    go_wp2
    go_ret2
    exact HF.out
set_option maxRecDepth 100000 in
set_option maxHeartbeats 1000000 in
theorem meet35 (a b : List (Int × Int)) (A B : Option Addr) (n c m d : Nat) (w : World) (hnc : n ≤ c) (hc : c ≤ maxLen) (hmd : m ≤ d) (hd : d ≤ maxLen) (ha : Rds w w.heap.size 2 A n (rngs a)) (hb : Rds w w.heap.size 2 B m (rngs b)) :
    Calls Try.prog 35 #[.slice A n c, .slice B m d] w (WOut w (fun p => mem a p ∧ mem b p) (n + m) (chk2 a b)) := by
  have HA := Lib.hid ha.rngs_len
  have HB := Lib.hid hb.rngs_len
  have HX := Lib.hid (chkL_two a b)
  have EG := Lib.hid (show ∀ args w, (callFunc 81 args).run Try.prog w = .ok (.enter 81 args) w from enters_of Try.func81 (by kernel_rfl) rfl)
  go_enter Try.func35, Try.ntmps35
  go_wp2_with fail
  have hb0 : Below w.heap.size w (((w.alloc (.cells #[.slice A n c] 22)).alloc (.cells #[.slice B m d] 22)).alloc (.cells #[.slice A n c, .slice B m d] 22)) := by go_grown
  have hz : (((w.alloc (.cells #[.slice A n c] 22)).alloc (.cells #[.slice B m d] 22)).alloc (.cells #[.slice A n c, .slice B m d] 22)).heap.size = w.heap.size + 1 + 1 + 1 := by simp
  have hbx : (((w.alloc (.cells #[.slice A n c] 22)).alloc (.cells #[.slice B m d] 22)).alloc (.cells #[.slice A n c, .slice B m d] 22)).cell? ⟨w.heap.size, 0, none⟩ = some (.slice A n c) := by
    rw [World.cell?_alloc_lt _ _ _ (by simp; omega), World.cell?_alloc_lt _ _ _ (by simp)]; simp
  have hby : (((w.alloc (.cells #[.slice A n c] 22)).alloc (.cells #[.slice B m d] 22)).alloc (.cells #[.slice A n c, .slice B m d] 22)).cell? ⟨w.heap.size + 1, 0, none⟩ = some (.slice B m d) := by
    rw [World.cell?_alloc_lt _ _ _ (by simp)]
    have e := (Rds.new (w.alloc (.cells #[.slice A n c] 22)) 1 1 #[.slice B m d] 22 [.slice B m d] rfl rfl).2 (by decide)
    rw [show (w.alloc (.cells #[.slice A n c] 22)).heap.size = w.heap.size + 1 by simp] at e
    obtain ⟨b1, o1, h1, _, h2⟩ := e
    injection h1 with h1
    injection h1 with h1 h3
    subst h1 h3
    exact h2 0 _ rfl
  have hrow := (Rds.new ((w.alloc (.cells #[.slice A n c] 22)).alloc (.cells #[.slice B m d] 22)) 1 2 #[.slice A n c, .slice B m d] 22 [.slice A n c, .slice B m d] rfl rfl)
  rw [show ((w.alloc (.cells #[.slice A n c] 22)).alloc (.cells #[.slice B m d] 22)).heap.size = w.heap.size + 1 + 1 by simp] at hrow
  refine (with76 [a, b] [.slice A n c, .slice B m d] (chk2 a b) HX.out _ 2 2 _ (by decide) (hrow.more (by omega)) ((sls_two hnc hc ha hmd hd hb).below hb0 (Nat.le_refl _) |>.more (by omega))
    81 #[.pointer (some ⟨w.heap.size, 0, none⟩), .pointer (some ⟨w.heap.size + 1, 0, none⟩)] (fun p => mem a p ∧ mem b p) (n + m) EG.out ?_).mono ?_
  · intro h0 w' hw
    have hk := chk2_ok h0
    have hnA := HA.out
    have hnB := HB.out
    have hs := hw.size
    exact clo81 a b _ _ A B n c m d w' (by omega) hk.2.1 hk.2.2.2 (((ha.below hb0 (Nat.le_refl _)).below hw (by omega)).more (by omega)) (((hb.below hb0 (Nat.le_refl _)).below hw (by omega)).more (by omega)) (by rw [hw.cell (p := ⟨w.heap.size, 0, none⟩) (by show w.heap.size < _; omega)]; exact hbx) (by rw [hw.cell (p := ⟨w.heap.size + 1, 0, none⟩) (by show w.heap.size + 1 < _; omega)]; exact hby)
  · rintro e w1 ⟨o0, h0, out, A1, n1, c1, rfl, h1, h2, hown, hbb⟩
    have HF := Lib.hid (show WOut w (fun p => mem a p ∧ mem b p) (n + m) (chk2 a b) _ w1 from ⟨o0, h0, out, A1, n1, c1, rfl, h1, h2, own_mono hown (by omega), hb0.trans (hbb.mono (by omega))⟩)
    clear h0 h1 h2
    generalize (if chk2 a b = 0 then if 400 < o0.length then (2 : Int) else 0 else chk2 a b) = E at HF ⊢
    go_wp2
    go_ret2
    exact HF.out
set_option maxRecDepth 100000 in
set_option maxHeartbeats 1000000 in
theorem less38 (a b : List (Int × Int)) (A B : Option Addr) (n c m d : Nat) (w : World) (hnc : n ≤ c) (hc : c ≤ maxLen) (hmd : m ≤ d) (hd : d ≤ maxLen) (ha : Rds w w.heap.size 2 A n (rngs a)) (hb : Rds w w.heap.size 2 B m (rngs b)) :
    Calls Try.prog 38 #[.slice A n c, .slice B m d] w (WOut w (fun p => mem a p ∧ ¬ mem b p) (n + m + 1) (chk2 a b)) := by
  have HA := Lib.hid ha.rngs_len
  have HB := Lib.hid hb.rngs_len
  have HX := Lib.hid (chkL_two a b)
  have EG := Lib.hid (show ∀ args w, (callFunc 84 args).run Try.prog w = .ok (.enter 84 args) w from enters_of Try.func84 (by kernel_rfl) rfl)
  go_enter Try.func38, Try.ntmps38
  go_wp2_with fail
  have hb0 : Below w.heap.size w (((w.alloc (.cells #[.slice A n c] 22)).alloc (.cells #[.slice B m d] 22)).alloc (.cells #[.slice A n c, .slice B m d] 22)) := by go_grown
  have hz : (((w.alloc (.cells #[.slice A n c] 22)).alloc (.cells #[.slice B m d] 22)).alloc (.cells #[.slice A n c, .slice B m d] 22)).heap.size = w.heap.size + 1 + 1 + 1 := by simp
  have hbx : (((w.alloc (.cells #[.slice A n c] 22)).alloc (.cells #[.slice B m d] 22)).alloc (.cells #[.slice A n c, .slice B m d] 22)).cell? ⟨w.heap.size, 0, none⟩ = some (.slice A n c) := by
    rw [World.cell?_alloc_lt _ _ _ (by simp; omega), World.cell?_alloc_lt _ _ _ (by simp)]; simp
  have hby : (((w.alloc (.cells #[.slice A n c] 22)).alloc (.cells #[.slice B m d] 22)).alloc (.cells #[.slice A n c, .slice B m d] 22)).cell? ⟨w.heap.size + 1, 0, none⟩ = some (.slice B m d) := by
    rw [World.cell?_alloc_lt _ _ _ (by simp)]
    have e := (Rds.new (w.alloc (.cells #[.slice A n c] 22)) 1 1 #[.slice B m d] 22 [.slice B m d] rfl rfl).2 (by decide)
    rw [show (w.alloc (.cells #[.slice A n c] 22)).heap.size = w.heap.size + 1 by simp] at e
    obtain ⟨b1, o1, h1, _, h2⟩ := e
    injection h1 with h1
    injection h1 with h1 h3
    subst h1 h3
    exact h2 0 _ rfl
  have hrow := (Rds.new ((w.alloc (.cells #[.slice A n c] 22)).alloc (.cells #[.slice B m d] 22)) 1 2 #[.slice A n c, .slice B m d] 22 [.slice A n c, .slice B m d] rfl rfl)
  rw [show ((w.alloc (.cells #[.slice A n c] 22)).alloc (.cells #[.slice B m d] 22)).heap.size = w.heap.size + 1 + 1 by simp] at hrow
  refine (with76 [a, b] [.slice A n c, .slice B m d] (chk2 a b) HX.out _ 2 2 _ (by decide) (hrow.more (by omega)) ((sls_two hnc hc ha hmd hd hb).below hb0 (Nat.le_refl _) |>.more (by omega))
    84 #[.pointer (some ⟨w.heap.size, 0, none⟩), .pointer (some ⟨w.heap.size + 1, 0, none⟩)] (fun p => mem a p ∧ ¬ mem b p) (n + m + 1) EG.out ?_).mono ?_
  · intro h0 w' hw
    have hk := chk2_ok h0
    have hnA := HA.out
    have hnB := HB.out
    have hs := hw.size
    exact clo84 a b _ _ A B n c m d w' (by omega) hk.2.1 hk.2.2.2 (((ha.below hb0 (Nat.le_refl _)).below hw (by omega)).more (by omega)) (((hb.below hb0 (Nat.le_refl _)).below hw (by omega)).more (by omega)) (by rw [hw.cell (p := ⟨w.heap.size, 0, none⟩) (by show w.heap.size < _; omega)]; exact hbx) (by rw [hw.cell (p := ⟨w.heap.size + 1, 0, none⟩) (by show w.heap.size + 1 < _; omega)]; exact hby) (by omega) (by omega)
  · rintro e w1 ⟨o0, h0, out, A1, n1, c1, rfl, h1, h2, hown, hbb⟩
    have HF := Lib.hid (show WOut w (fun p => mem a p ∧ ¬ mem b p) (n + m + 1) (chk2 a b) _ w1 from ⟨o0, h0, out, A1, n1, c1, rfl, h1, h2, own_mono hown (by omega), hb0.trans (hbb.mono (by omega))⟩)
    clear h0 h1 h2
    generalize (if chk2 a b = 0 then if 400 < o0.length then (2 : Int) else 0 else chk2 a b) = E at HF ⊢
    go_wp2
    go_ret2
    exact HF.out
end Go.Proofs.Ytehlijnhhbdbhaa
