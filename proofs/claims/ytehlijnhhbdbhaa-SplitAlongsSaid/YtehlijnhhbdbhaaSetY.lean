/- Union of the program, walked. -/
import Derived.Test.YtehlijnhhbdbhaaSetT
import Derived.Test.YtehlijnhhbdbhaaSetW
namespace Go.Proofs.Ytehlijnhhbdbhaa
open Go.RowKit
set_option linter.unusedVariables false
set_option maxRecDepth 100000 in
set_option maxHeartbeats 1000000 in
theorem clo85 (a b : List (Int × Int)) (p q : Nat) (A B : Option Addr) (n c m d : Nat) (w : World) (hn : n + m ≤ 100000) (hnc : n ≤ c) (hc : c ≤ maxLen) (hmd : m ≤ d) (hd : d ≤ maxLen) (hca : Can a) (hcb : Can b) (ha : Rds w w.heap.size 2 A n (rngs a)) (hb : Rds w w.heap.size 2 B m (rngs b))
    (hp : w.cell? ⟨p, 0, none⟩ = some (.slice A n c)) (hq : w.cell? ⟨q, 0, none⟩ = some (.slice B m d)) :
    Calls Try.prog 85 #[.pointer (some ⟨p, 0, none⟩), .pointer (some ⟨q, 0, none⟩)] w fun e w' => ∃ out, IsSet out (fun p => mem a p ∨ mem b p) ∧ out.length ≤ n + m ∧ OwnRngs w out e w' := by
  have HA := Lib.hid ha.rngs_len
  have HB := Lib.hid hb.rngs_len
  have HOK := Lib.hid (show ∀ r ∈ [a, b].flatten, okR r = true from fun r hr => by
    rcases List.mem_append.1 (by simpa using hr : r ∈ a ++ b) with h | h
    · exact hca.1 r h
    · exact hcb.1 r h)
  have HTL := Lib.hid (show total [a, b] = n + m by simp [total, HA.out, HB.out])
  have hb0 : Below w.heap.size w (w.alloc (.cells #[.slice A n c, .slice B m d] 22)) := by go_grown
  have C := Lib.hid (concat86 [a, b] [.slice A n c, .slice B m d] _ 2 2 _ (by decide) ((Rds.new w 1 2 #[.slice A n c, .slice B m d] 22 [.slice A n c, .slice B m d] rfl rfl).more (by simp)) ((sls_two hnc hc ha hmd hd hb).below hb0 (Nat.le_refl _) |>.more (by simp)) (by rw [HTL.out]; omega))
  clear hca hcb
  go_enter Try.func85, Try.ntmps85
  go_wp2_with fail
  refine C.out.mono ?_
  rintro e w1 ⟨A1, n1, c1, rfl, hown, hb1⟩
  have hsz := hb1.size
  have hl1 : n1 = n + m := by rw [own_rngs_len hown]; exact HTL.out
  have HL1 := Lib.hid hl1
  clear hl1
  have R := Lib.hid (Rds.of_own hown)
  go_wp2_with fail
  refine (raw72 (Lib.hid sortC) [a, b].flatten A1 n1 c1 _ (by rw [HL1.out]; exact hn) HOK.out R.out).mono ?_
  rintro e w2 ⟨out, hs, hl, A2, n2, c2, rfl, hown2, hb2⟩
  have HS := Lib.hid hs
  have HLL := Lib.hid hl
  clear hs hl
  go_wp2
  go_ret
  refine ⟨out, ⟨HS.out.1, fun x => (HS.out.2 x).trans ?_⟩, by rw [← HL1.out]; exact HLL.out, A2, n2, c2, rfl, own_mono hown2 (by simp at hsz; omega), hb0.trans ((hb1.trans (hb2.mono hsz)).mono (by simp))⟩
  rw [show [a, b].flatten = a ++ b by simp, mem_append]
set_option maxRecDepth 100000 in
set_option maxHeartbeats 1000000 in
theorem union39 (a b : List (Int × Int)) (A B : Option Addr) (n c m d : Nat) (w : World) (hnc : n ≤ c) (hc : c ≤ maxLen) (hmd : m ≤ d) (hd : d ≤ maxLen) (ha : Rds w w.heap.size 2 A n (rngs a)) (hb : Rds w w.heap.size 2 B m (rngs b)) :
    Calls Try.prog 39 #[.slice A n c, .slice B m d] w (WOut w (fun p => mem a p ∨ mem b p) (n + m) (chk2 a b)) := by
  have HA := Lib.hid ha.rngs_len
  have HB := Lib.hid hb.rngs_len
  have HX := Lib.hid (chkL_two a b)
  have EG := Lib.hid (show ∀ args w, (callFunc 85 args).run Try.prog w = .ok (.enter 85 args) w from enters_of Try.func85 (by kernel_rfl) rfl)
  go_enter Try.func39, Try.ntmps39
  go_wp2_with fail
  have hb0 : Below w.heap.size w (((w.alloc (.cells #[.slice A n c] 22)).alloc (.cells #[.slice B m d] 22)).alloc (.cells #[.slice A n c, .slice B m d] 22)) := by go_grown
  have hz : (((w.alloc (.cells #[.slice A n c] 22)).alloc (.cells #[.slice B m d] 22)).alloc (.cells #[.slice A n c, .slice B m d] 22)).heap.size = w.heap.size + 1 + 1 + 1 := by simp
  have hbx : (((w.alloc (.cells #[.slice A n c] 22)).alloc (.cells #[.slice B m d] 22)).alloc (.cells #[.slice A n c, .slice B m d] 22)).cell? ⟨w.heap.size, 0, none⟩ = some (.slice A n c) := by
    rw [World.cell?_alloc_lt _ _ _ (by simp; omega), World.cell?_alloc_lt _ _ _ (by simp)]; simp
  have hby : (((w.alloc (.cells #[.slice A n c] 22)).alloc (.cells #[.slice B m d] 22)).alloc (.cells #[.slice A n c, .slice B m d] 22)).cell? ⟨w.heap.size + 1, 0, none⟩ = some (.slice B m d) := by
    rw [World.cell?_alloc_lt _ _ _ (by simp)]
    have e := (Rds.new (w.alloc (.cells #[.slice A n c] 22)) 1 1 #[.slice B m d] 22 [.slice B m d] rfl rfl).2 (by decide)
    rw [show (w.alloc (.cells #[.slice A n c] 22)).heap.size = w.heap.size + 1 by simp] at e
    obtain ⟨b1, o1, h1, _, h2⟩ := e
    injection h1 with h1
    injection h1 with h1 h3
    subst h1 h3
    exact h2 0 _ rfl
  have hrow := (Rds.new ((w.alloc (.cells #[.slice A n c] 22)).alloc (.cells #[.slice B m d] 22)) 1 2 #[.slice A n c, .slice B m d] 22 [.slice A n c, .slice B m d] rfl rfl)
  rw [show ((w.alloc (.cells #[.slice A n c] 22)).alloc (.cells #[.slice B m d] 22)).heap.size = w.heap.size + 1 + 1 by simp] at hrow
  refine (with76 [a, b] [.slice A n c, .slice B m d] (chk2 a b) HX.out _ 2 2 _ (by decide) (hrow.more (by omega)) ((sls_two hnc hc ha hmd hd hb).below hb0 (Nat.le_refl _) |>.more (by omega))
    85 #[.pointer (some ⟨w.heap.size, 0, none⟩), .pointer (some ⟨w.heap.size + 1, 0, none⟩)] (fun p => mem a p ∨ mem b p) (n + m) EG.out ?_).mono ?_
  · intro h0 w' hw
    have hk := chk2_ok h0
    have hnA := HA.out
    have hnB := HB.out
    have hs := hw.size
    exact clo85 a b _ _ A B n c m d w' (by omega) hnc hc hmd hd hk.2.1 hk.2.2.2 (((ha.below hb0 (Nat.le_refl _)).below hw (by omega)).more (by omega)) (((hb.below hb0 (Nat.le_refl _)).below hw (by omega)).more (by omega)) (by rw [hw.cell (p := ⟨w.heap.size, 0, none⟩) (by show w.heap.size < _; omega)]; exact hbx) (by rw [hw.cell (p := ⟨w.heap.size + 1, 0, none⟩) (by show w.heap.size + 1 < _; omega)]; exact hby)
  · rintro e w1 ⟨o0, h0, out, A1, n1, c1, rfl, h1, h2, hown, hbb⟩
    have HF := Lib.hid (show WOut w (fun p => mem a p ∨ mem b p) (n + m) (chk2 a b) _ w1 from ⟨o0, h0, out, A1, n1, c1, rfl, h1, h2, own_mono hown (by omega), hb0.trans (hbb.mono (by omega))⟩)
    clear h0 h1 h2
    generalize (if chk2 a b = 0 then if 400 < o0.length then (2 : Int) else 0 else chk2 a b) = E at HF ⊢
    go_wp2
    go_ret2
    exact HF.out
end Go.Proofs.Ytehlijnhhbdbhaa
