/- spoilSet of the law; what operations of sets leave, as rows of their own: walked. -/
import Derived.Test.YtpdcbddofekbcaaGreatSplZ
import Derived.Test.YtpdcbddofekbcaaGreatFoldU
import Derived.Laws.OwnMore
namespace Go.Proofs.YtpdcbddofekbcaaGreat
open Go.RowKit
set_option linter.unusedVariables false
/-- an operation's set and errno, a row of its own -/
def OpR (w : World) (f : Int → Prop) (G : Prop) (e : Ending) (w' : World) : Prop :=
  ∃ out A m k x, e = .returned (.tuple #[.slice A m k, .int .i64 x]) ∧ m ≤ k ∧ k ≤ maxLen ∧ Hid (x = 0 → IsSet out f ∧ G) ∧ Hid (w'.ownsRow w.heap.size 25 2 (.slice A m k) m (rngs out)) ∧ Below w.heap.size w w'
theorem opR_with {w w' : World} {f : Int → Prop} {k : Nat} {c : Int} {e : Ending} (h : WOut w f k c e w') : OpR w f (c = 0) e w' := by
  obtain ⟨o0, h0, out, A1, n1, c1, rfl, h1, h2, hown, hb⟩ := h
  obtain ⟨_, _, hv1, q1, q2⟩ := own_slice hown
  injection hv1 with e1 e2 e3
  subst e1 e3
  refine ⟨out, A1, n1, c1, _, rfl, q1, q2, Lib.hid fun hx => ⟨(h1 hx).1, ?_⟩, Lib.hid hown, hb⟩
  by_cases hc : c = 0
  · exact hc
  · rw [if_neg hc] at hx; exact absurd hx hc
theorem opR_raw {w w' : World} {f : Int → Prop} {k : Nat} {x : Int} {e : Ending} (h : ROut w f k x e w') : OpR w f (x = 0) e w' := by
  obtain ⟨out, A1, n1, c1, rfl, h1, h2, hown, hb⟩ := h
  obtain ⟨_, _, hv1, q1, q2⟩ := own_slice hown
  injection hv1 with e1 e2 e3
  subst e1 e3
  exact ⟨out, A1, n1, c1, x, rfl, q1, q2, Lib.hid fun hx => ⟨(h1 hx).1, hx⟩, Lib.hid hown, hb⟩
set_option maxRecDepth 100000 in
set_option maxHeartbeats 1000000 in
theorem spoil16 (xs : List Value) (A : Option Addr) (n c base : Nat) (w : World) (hown : w.ownsRow base 25 2 (.slice A n c) n xs) :
    Calls Tryz.prog 16 #[.slice A n c] w fun e w' => e = .returned (.tuple #[]) ∧ w.grownBy w' (Value.slice A n c).ownBlock := by
  rcases Nat.eq_zero_or_pos n with h0 | h0
  · subst h0
    go_enter Tryz.func16, Tryz.ntmps16
    go_wp2_with fail
    go_loopw [2] (fun i wr => i = .int .i64 0 ∧ w = wr) (fun _ _ => 0)
    case atStart => exact ⟨rfl, rfl⟩
    case round =>
      obtain ⟨rfl, rfl⟩ := hrel
      go_wp2
      go_end0
      exact ⟨rfl, World.grownBy.refl _ _⟩
  · obtain ⟨g, cap, hv, hg, hlt⟩ := hown.form h0
    have hA : A = some ⟨g, 0, none⟩ := by injection hv
    subst hA
    have hnm : n ≤ maxLen := by obtain ⟨_, _, _, q1, q2⟩ := own_slice hown; omega
    unfold maxLen at hnm
    have HO := Lib.hid hown
    clear hown hv
    show Calls Tryz.prog 16 #[.slice (some ⟨g, 0, none⟩) n c] w fun e w' => e = .returned (.tuple #[]) ∧ w.grownBy w' (some g)
    go_enter Tryz.func16, Tryz.ntmps16
    go_wp2_with fail
    go_loopw [2] (fun i wr => ∃ k : Nat, ∃ ys, i = .int .i64 (k : Int) ∧ k ≤ n ∧ Hid (wr.ownsRow base 25 2 (.slice (some ⟨g, 0, none⟩) n c) n ys) ∧ Hid (w.grownBy wr (some g))) (fun i _ => (n - intOf i).toNat)
    case atStart => exact ⟨0, xs, by go_num, by omega, HO, Lib.hid (World.grownBy.refl _ _)⟩
    case round =>
      obtain ⟨k, ys, rfl, hkn, HR, HG⟩ := hrel
      by_cases hlt2 : k < n
      · have hk' : (k : Int) < (n : Int) := by omega
        have hk0 : (0 : Int) ≤ (k : Int) := by omega
        have c0 := HR.out.cellAt (k * 2) (by omega)
        have c1 := HR.out.cellAt (k * 2 + 1) (by omega)
        have f0 := HR.out.frozenAt (k * 2)
        have f1 := HR.out.frozenAt (k * 2 + 1)
        have hly := HR.out.1
        rw [List.getElem?_eq_getElem (by omega)] at c0 c1
        generalize ys[k * 2]'(by omega) = v0 at c0
        generalize ys[k * 2 + 1]'(by omega) = v1 at c1
        have s0 := HR.out.stored (k * 2) (.int .i64 (-5))
        have s1 := s0.1.stored (k * 2 + 1) (.int .i64 (-9))
        have HR2 := Lib.hid s1.1
        have HG2 := Lib.hid ((HG.out.trans s0.2).trans s1.2)
        clear s0 s1 hly
        go_wp2_with fail
        exact ⟨⟨k + 1, _, by go_num, by omega, HR2, HG2⟩, by simp only [intOf]; omega⟩
      · have hk' : ¬ (k : Int) < (n : Int) := by omega
        go_wp2
        go_end0
        exact ⟨rfl, HG.out⟩
/-- a row of the call's own, somewhere between two places of the heap -/
def OwnI (w : World) (lo hi : Nat) (v : Value) (n : Nat) : Prop := (∃ xs, w.ownsRow lo 25 2 v n xs) ∧ ∀ g, v.ownBlock = some g → g < hi
section
variable {w w' a : World} {lo hi n B : Nat} {v : Value}
theorem OwnI.of {xs : List Value} (h : w.ownsRow lo 25 2 v n xs) : OwnI w lo w.heap.size v n := ⟨⟨xs, h⟩, fun g hg => (h.lt g hg).2⟩
theorem OwnI.below (h : OwnI w lo hi v n) (hb : Below w.heap.size w w') : OwnI w' lo hi v n := by
  obtain ⟨⟨xs, h1⟩, h2⟩ := h
  exact ⟨⟨xs, own_below h1 hb (Nat.le_refl _)⟩, h2⟩
theorem OwnI.at (h : OwnI w lo hi v n) : ∀ g, v.ownBlock = some g → lo ≤ g ∧ g < hi := by
  obtain ⟨⟨xs, h1⟩, h2⟩ := h
  exact fun g hg => ⟨(h1.lt g hg).1, h2 g hg⟩
theorem OwnI.kept (h : OwnI w lo hi v n) {u : Option Nat} (hg : w.grownBy w' u) (hne : ∀ g, u = some g → g < lo ∨ hi ≤ g) : OwnI w' lo hi v n := by
  have hat := h.at
  obtain ⟨⟨xs, h1⟩, h2⟩ := h
  refine ⟨⟨xs, ?_⟩, h2⟩
  refine h1.kept hg ?_
  cases hv : v.ownBlock with
  | none => exact .inl rfl
  | some b =>
    refine .inr fun e => ?_
    have h3 := hat b hv
    have h4 := hne b e.symm
    omega
theorem OwnI.spoilt (h : OwnI w lo hi v n) (hB : Below B a w) (hg : w.grownBy w' v.ownBlock) (hlo : B ≤ lo) (hs : lo ≤ w.heap.size) : Below B a w' := by
  obtain ⟨⟨xs, h1⟩, h2⟩ := h
  exact grown_own hB h1 hg hlo hs
end
theorem spoilI {w : World} {lo hi n c : Nat} {A : Option Addr} (h : OwnI w lo hi (.slice A n c) n) : Calls Tryz.prog 16 #[.slice A n c] w fun e w' => e = .returned (.tuple #[]) ∧ w.grownBy w' (Value.slice A n c).ownBlock := by
  obtain ⟨⟨xs, h1⟩, h2⟩ := h
  exact spoil16 xs A n c lo w h1
/-- roads that are rows of the call's own, from the k-th on -/
def RoadI (w : World) (lo : Nat) (vs : List Value) (ls : List (List (Int × Int))) (k : Nat) : Prop :=
  vs.length = ls.length ∧ (∀ j (h : j < vs.length) (h' : j < ls.length), k ≤ j → ∃ n, w.ownsRow lo 25 2 vs[j] n (rngs ls[j])) ∧ Apart vs
theorem RoadI.of {w : World} {lo : Nat} {vs : List Value} {ls : List (List (Int × Int))} (h : OwnSls w lo vs ls) : RoadI w lo vs ls 0 := ⟨h.1, fun j h1 h2 _ => h.2.1 j h1 h2, h.2.2⟩
theorem RoadI.below {w w' : World} {lo k : Nat} {vs : List Value} {ls : List (List (Int × Int))} (h : RoadI w lo vs ls k) (hb : Below w.heap.size w w') : RoadI w' lo vs ls k :=
  ⟨h.1, fun j h1 h2 hk => by obtain ⟨n, hn⟩ := h.2.1 j h1 h2 hk; exact ⟨n, own_below hn hb (Nat.le_refl _)⟩, h.2.2⟩
theorem RoadI.step {w w' : World} {lo k : Nat} {vs : List Value} {ls : List (List (Int × Int))} (h : RoadI w lo vs ls k) (hk : k < vs.length) (hg : w.grownBy w' vs[k].ownBlock) : RoadI w' lo vs ls (k + 1) := by
  refine ⟨h.1, fun j h1 h2 hj => ?_, h.2.2⟩
  obtain ⟨n, hn⟩ := h.2.1 j h1 h2 (by omega)
  exact ⟨n, own_kept hn hg fun g hv hj' => List.pairwise_iff_getElem.1 h.2.2 k j hk h1 (by omega) g hv hj'⟩
/-- what is put behind a row, be it however long -/
theorem app_rngsB {w : World} {ops : Array Oper} {rest : List Oper} {o : Oper} {a : Act} {Q : Exit → Act → World → Prop} (s x : Operand) {base B n m c : Nat} {A : Option Addr} {v : Value} {xs ys : List (Int × Int)}
    (hown : w.ownsRow base 25 2 v n (rngs xs)) (hr : Rds w B 2 A m (rngs ys)) (hlen : n + m ≤ 8796093022208) (hbase : base ≤ w.heap.size) (hgd : o.guard = none)
    (ho : o.op = .call { callee := .builtin .append, args := #[s, x], argTypes := #[22, 22] }) (hs : a.eval s = v) (hx : a.eval x = .slice A m c)
    (h : ∀ v' w', w'.ownsRow base 25 2 v' (n + m) (rngs (xs ++ ys)) → w.grownBy w' v.ownBlock → (v'.ownBlock = v.ownBlock ∨ v'.ownBlock = some w.heap.size) → wpList Tryz.prog ops Q rest (a.put o.dst v') w') :
    wpList Tryz.prog ops Q (o :: rest) a w := by
  obtain ⟨i0, hi0, hz0, hz1, hz2⟩ := info_parts rng_info
  refine wpList_append_rds w hgd s x _ ho base 25 i0 _ 2 16 Tryz.underlying22 hi0 hz0 hz1 hz2 rfl (by omega) v n _ hs hown B A m c _ hx hr (rngs_one _) (by unfold maxLen; omega) (by omega) hbase ?_
  intro v' w' h1 h2 h3
  exact h v' w' (by rw [rngs_append]; exact h1) h2 h3
end Go.Proofs.YtpdcbddofekbcaaGreat
