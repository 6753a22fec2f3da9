/-
  Union of the program, walked. The operations of sets, as the laws call them: one form of contract for all.
-/
import Derived.Test.YtpdcbddofekbcaaGreatGL
import Derived.Test.YtpdcbddofekbcaaGreatSetW
import Derived.Test.YtpdcbddofekbcaaGreatGM
import Derived.Test.YtpdcbddofekbcaaGreatGB
namespace Go.Proofs.YtpdcbddofekbcaaGreat
open Go.RowKit
set_option linter.unusedVariables false
set_option maxRecDepth 100000 in
set_option maxHeartbeats 1000000 in
theorem clo85 (a b : List (Int × Int)) (p q : Nat) (A B : Option Addr) (n c m d : Nat) (w : World) (hn : n + m ≤ 100000) (hnc : n ≤ c) (hc : c ≤ maxLen) (hmd : m ≤ d) (hd : d ≤ maxLen) (hca : Can a) (hcb : Can b) (ha : Rds w w.heap.size 2 A n (rngs a)) (hb : Rds w w.heap.size 2 B m (rngs b))
    (hp : w.cell? ⟨p, 0, none⟩ = some (.slice A n c)) (hq : w.cell? ⟨q, 0, none⟩ = some (.slice B m d)) :
    Calls Tryz.prog 19 #[.pointer (some ⟨p, 0, none⟩), .pointer (some ⟨q, 0, none⟩)] w fun e w' => ∃ out, IsSet out (fun p => mem a p ∨ mem b p) ∧ out.length ≤ n + m ∧ OwnRngs w out e w' := by
  have HA := Lib.hid ha.rngs_len
  have HB := Lib.hid hb.rngs_len
  have HOK := Lib.hid (show ∀ r ∈ [a, b].flatten, okR r = true from fun r hr => by
    rcases List.mem_append.1 (by simpa using hr : r ∈ a ++ b) with h | h
    · exact hca.1 r h
    · exact hcb.1 r h)
  have HTL := Lib.hid (show total [a, b] = n + m by simp [total, HA.out, HB.out])
  have hb0 : Below w.heap.size w (w.alloc (.cells #[.slice A n c, .slice B m d] 22)) := by go_grown
  have C := Lib.hid (concat86 [a, b] [.slice A n c, .slice B m d] _ 2 2 _ (by decide) ((Rds.new w 1 2 #[.slice A n c, .slice B m d] 22 [.slice A n c, .slice B m d] rfl rfl).more (by simp)) ((sls_two hnc hc ha hmd hd hb).below hb0 (Nat.le_refl _) |>.more (by simp)) (by rw [HTL.out]; omega))
  clear hca hcb
  go_enter Tryz.func19, Tryz.ntmps19
  go_wp2_with fail
  refine C.out.mono ?_
  rintro e w1 ⟨A1, n1, c1, rfl, hown, hb1⟩
  have hsz := hb1.size
  have hl1 : n1 = n + m := by rw [own_rngs_len hown]; exact HTL.out
  have HL1 := Lib.hid hl1
  clear hl1
  have R := Lib.hid (Rds.of_own hown)
  go_wp2_with fail
  refine (raw72 (Lib.hid sortC) [a, b].flatten A1 n1 c1 _ (by rw [HL1.out]; exact hn) HOK.out R.out).mono ?_
  rintro e w2 ⟨out, hs, hl, A2, n2, c2, rfl, hown2, hb2⟩
  have HS := Lib.hid hs
  have HLL := Lib.hid hl
  clear hs hl
  go_wp2
  go_ret
  refine ⟨out, ⟨HS.out.1, fun x => (HS.out.2 x).trans ?_⟩, by rw [← HL1.out]; exact HLL.out, A2, n2, c2, rfl, own_mono hown2 (by simp at hsz; omega), hb0.trans ((hb1.trans (hb2.mono hsz)).mono (by simp))⟩
  rw [show [a, b].flatten = a ++ b by simp, mem_append]
set_option maxRecDepth 100000 in
set_option maxHeartbeats 1000000 in
theorem union39 (a b : List (Int × Int)) (A B : Option Addr) (n c m d : Nat) (w : World) (hnc : n ≤ c) (hc : c ≤ maxLen) (hmd : m ≤ d) (hd : d ≤ maxLen) (ha : Rds w w.heap.size 2 A n (rngs a)) (hb : Rds w w.heap.size 2 B m (rngs b)) :
    Calls Tryz.prog 6 #[.slice A n c, .slice B m d] w (WOut w (fun p => mem a p ∨ mem b p) (n + m) (chk2 a b)) := by
  have HA := Lib.hid ha.rngs_len
  have HB := Lib.hid hb.rngs_len
  have HX := Lib.hid (chkL_two a b)
  have EG := Lib.hid (show ∀ args w, (callFunc 19 args).run Tryz.prog w = .ok (.enter 19 args) w from enters_of Tryz.func19 (by kernel_rfl) rfl)
  go_enter Tryz.func6, Tryz.ntmps6
  go_wp2_with fail
  have hb0 : Below w.heap.size w (((w.alloc (.cells #[.slice A n c] 22)).alloc (.cells #[.slice B m d] 22)).alloc (.cells #[.slice A n c, .slice B m d] 22)) := by go_grown
  have hz : (((w.alloc (.cells #[.slice A n c] 22)).alloc (.cells #[.slice B m d] 22)).alloc (.cells #[.slice A n c, .slice B m d] 22)).heap.size = w.heap.size + 1 + 1 + 1 := by simp
  have hbx : (((w.alloc (.cells #[.slice A n c] 22)).alloc (.cells #[.slice B m d] 22)).alloc (.cells #[.slice A n c, .slice B m d] 22)).cell? ⟨w.heap.size, 0, none⟩ = some (.slice A n c) := by
    rw [World.cell?_alloc_lt _ _ _ (by simp; omega), World.cell?_alloc_lt _ _ _ (by simp)]; simp
  have hby : (((w.alloc (.cells #[.slice A n c] 22)).alloc (.cells #[.slice B m d] 22)).alloc (.cells #[.slice A n c, .slice B m d] 22)).cell? ⟨w.heap.size + 1, 0, none⟩ = some (.slice B m d) := by
    rw [World.cell?_alloc_lt _ _ _ (by simp)]
    have e := (Rds.new (w.alloc (.cells #[.slice A n c] 22)) 1 1 #[.slice B m d] 22 [.slice B m d] rfl rfl).2 (by decide)
    rw [show (w.alloc (.cells #[.slice A n c] 22)).heap.size = w.heap.size + 1 by simp] at e
    obtain ⟨b1, o1, h1, _, h2⟩ := e
    injection h1 with h1
    injection h1 with h1 h3
    subst h1 h3
    exact h2 0 _ rfl
  have hrow := (Rds.new ((w.alloc (.cells #[.slice A n c] 22)).alloc (.cells #[.slice B m d] 22)) 1 2 #[.slice A n c, .slice B m d] 22 [.slice A n c, .slice B m d] rfl rfl)
  rw [show ((w.alloc (.cells #[.slice A n c] 22)).alloc (.cells #[.slice B m d] 22)).heap.size = w.heap.size + 1 + 1 by simp] at hrow
  refine (with76 [a, b] [.slice A n c, .slice B m d] (chk2 a b) HX.out _ 2 2 _ (by decide) (hrow.more (by omega)) ((sls_two hnc hc ha hmd hd hb).below hb0 (Nat.le_refl _) |>.more (by omega))
    19 #[.pointer (some ⟨w.heap.size, 0, none⟩), .pointer (some ⟨w.heap.size + 1, 0, none⟩)] (fun p => mem a p ∨ mem b p) (n + m) EG.out ?_).mono ?_
  · intro h0 w' hw
    have hk := chk2_ok h0
    have hnA := HA.out
    have hnB := HB.out
    have hs := hw.size
    exact clo85 a b _ _ A B n c m d w' (by omega) hnc hc hmd hd hk.2.1 hk.2.2.2 (((ha.below hb0 (Nat.le_refl _)).below hw (by omega)).more (by omega)) (((hb.below hb0 (Nat.le_refl _)).below hw (by omega)).more (by omega)) (by rw [hw.cell (p := ⟨w.heap.size, 0, none⟩) (by show w.heap.size < _; omega)]; exact hbx) (by rw [hw.cell (p := ⟨w.heap.size + 1, 0, none⟩) (by show w.heap.size + 1 < _; omega)]; exact hby)
  · rintro e w1 ⟨o0, h0, out, A1, n1, c1, rfl, h1, h2, hown, hbb⟩
    have HF := Lib.hid (show WOut w (fun p => mem a p ∨ mem b p) (n + m) (chk2 a b) _ w1 from ⟨o0, h0, out, A1, n1, c1, rfl, h1, h2, own_mono hown (by omega), hb0.trans (hbb.mono (by omega))⟩)
    clear h0 h1 h2
    generalize (if chk2 a b = 0 then if 400 < o0.length then (2 : Int) else 0 else chk2 a b) = E at HF ⊢
    go_wp2
    go_ret2
    exact HF.out
end Go.Proofs.YtpdcbddofekbcaaGreat
namespace Go.Proofs.YtpdcbddofekbcaaGreat
open Go.RowKit
set_option linter.unusedVariables false
theorem below_q (w : World) (q : Nat) : Below w.heap.size w (w.drewN q) := below_drewN (Below.refl _ _) q
theorem bz {x : Int} (h : x ≠ 0) : (x == 0) = false := beq_eq_false_iff_ne.2 h
theorem bn {x : Int} (h : x ≠ 0) : (x != 0) = true := bne_iff_ne.2 h
/-- what a set and its errno say -/
structure SFact (f : Int → Prop) (c : Int) (out : List (Int × Int)) (x : Int) : Prop where
  ok : x = 0 → IsSet out f ∧ out.length ≤ 400
  bad : x ≠ 0 → out = []
  err : c ≠ 0 → x = c
  fits : c = 0 → ∃ s, IsSet s f ∧ x = if 400 < s.length then 2 else 0
theorem SFact.good {f : Int → Prop} {c x : Int} {out : List (Int × Int)} (h : SFact f c out x) (hx : x = 0) : IsSet out f ∧ chk out = 0 ∧ c = 0 :=
  ⟨(h.ok hx).1, (chk_ok out).2 ⟨(h.ok hx).2, (h.ok hx).1.1⟩, Classical.byContradiction fun hc => hc (by rw [← h.err hc, hx])⟩
theorem SFact.many {f : Int → Prop} {c x : Int} {out : List (Int × Int)} (h : SFact f c out x) (hc : c = 0) (hx : x ≠ 0) : x = 2 := by
  obtain ⟨s, _, e⟩ := h.fits hc
  rw [e] at hx ⊢
  split
  · rfl
  · rename_i k; rw [if_neg k] at hx; exact absurd rfl hx
theorem SFact.of_set {f : Int → Prop} {c x : Int} {out s : List (Int × Int)} (h : SFact f c out x) (hc : c = 0) (hs : IsSet s f) (hl : s.length ≤ 400) : x = 0 ∧ out = s := by
  obtain ⟨s', hs', e⟩ := h.fits hc
  have := hs'.eq hs (fun p => Iff.rfl)
  subst this
  have hx : x = 0 := by rw [e, if_neg (by omega)]
  exact ⟨hx, (h.ok hx).1.eq hs' (fun p => Iff.rfl)⟩
def SRes (w : World) (f : Int → Prop) (c : Int) (e : Ending) (w' : World) : Prop :=
  ∃ out A n k x, e = .returned (.tuple #[.slice A n k, .int .i64 x]) ∧ Hid (SFact f c out x) ∧ n ≤ k ∧ k ≤ maxLen ∧ Hid (out.length = n) ∧ Hid (Rds w' w'.heap.size 2 A n (rngs out)) ∧ Below w.heap.size w w'
theorem sres_of {w w' : World} {f : Int → Prop} {k : Nat} {c : Int} {e : Ending} (h : WOut w f k c e w') : SRes w f c e w' := by
  obtain ⟨o0, h0, out, A1, n1, c1, rfl, h1, h2, hown, hb⟩ := h
  obtain ⟨_, _, hv1, q1, q2⟩ := own_slice hown
  injection hv1 with e1 e2 e3
  subst e1 e3
  refine ⟨out, A1, n1, c1, _, rfl, Lib.hid ⟨fun hx => ?_, h2, fun hc => if_neg hc, fun hc => ⟨o0, (h0 hc).1, if_pos hc⟩⟩, q1, q2, Lib.hid (own_rngs_len hown).symm, Lib.hid (Rds.of_own hown), hb⟩
  have hs := (h1 hx).1
  refine ⟨hs, ?_⟩
  by_cases hc : c = 0
  · rw [if_pos hc] at hx
    have := hs.eq (h0 hc).1 (fun p => Iff.rfl)
    rw [this]
    split at hx
    · cases hx
    · omega
  · rw [if_neg hc] at hx; exact absurd hx hc
theorem notS (a : List (Int × Int)) (A : Option Addr) (n c : Nat) (w : World) (hnc : n ≤ c) (hc : c ≤ maxLen) (ha : Rds w w.heap.size 2 A n (rngs a)) :
    Calls Tryz.prog 8 #[.slice A n c] w (SRes w (fun p => 0 ≤ p ∧ p ≤ 1114111 ∧ ¬ mem a p) (chk a)) := (not31 a A n c w hnc hc ha).mono fun _ _ h => sres_of h
theorem unionS (a b : List (Int × Int)) (A B : Option Addr) (n c m d : Nat) (w : World) (hnc : n ≤ c) (hc : c ≤ maxLen) (hmd : m ≤ d) (hd : d ≤ maxLen) (ha : Rds w w.heap.size 2 A n (rngs a)) (hb : Rds w w.heap.size 2 B m (rngs b)) :
    Calls Tryz.prog 6 #[.slice A n c, .slice B m d] w (SRes w (fun p => mem a p ∨ mem b p) (chk2 a b)) := (union39 a b A B n c m d w hnc hc hmd hd ha hb).mono fun _ _ h => sres_of h
theorem sameS_ (a b : List (Int × Int)) (v : Bool) (hv : sameS a b = v) (A B : Option Addr) (n m c d : Nat) (w : World) (hn : n ≤ maxLen) (hm : m ≤ maxLen) (ha : Rds w w.heap.size 2 A n (rngs a)) (hb : Rds w w.heap.size 2 B m (rngs b)) :
    Calls Tryz.prog 11 #[.slice A n c, .slice B m d] w fun e w' => e = .returned (.bool v) ∧ Below w.heap.size w w' := by
  subst hv
  exact (sameSet_any a b A B n m c d w _ _ hn hm ha hb).mono fun _ _ ⟨h1, q, h2⟩ => ⟨h1, by subst h2; exact below_q w q⟩
end Go.Proofs.YtpdcbddofekbcaaGreat
