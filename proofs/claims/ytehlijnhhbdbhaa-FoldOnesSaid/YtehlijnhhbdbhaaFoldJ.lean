/- append onto a slice that is full: plain laws. -/
import Derived.Test.YtehlijnhhbdbhaaFoldI
namespace Go.Proofs.Ytehlijnhhbdbhaa
open Go.RowKit
set_option linter.unusedVariables false
theorem run_append_zero {P : Program} (w : World) (t ty e : TypeId) (i : TypeInfo) (ht : P.underlying t = some (.slice e)) (hi : P.info? e = some i) (A A' : Option Addr) (n cap c : Nat) (hnc : n ≤ cap) :
    (Builtin.append_ #[t, t] ty #[.slice A n cap, .slice A' 0 c]).run P w = .ok (.slice A n cap) w := by
  cases A' with
  | none => cases A <;> simp [Builtin.append_, run_underlying ht, sizeOf, typeInfo, hi, Builtin.lenOf, Builtin.firstCells, hnc, storeCells]
  | some a => cases A <;> simp [Builtin.append_, run_underlying ht, sizeOf, typeInfo, hi, Builtin.lenOf, Builtin.firstCells, hnc, storeCells, loadCells, loadCellsFrom]
set_option maxRecDepth 100000 in
theorem step_full_ints {w : World} {ops : Array Oper} {o : Oper} {a : Act} {K : Act → World → Prop} {Q : Exit → Act → World → Prop} {E : Prop} (s x : Operand) {B B' n m c : Nat} {ad : Addr} {A' : Option Addr} {xs ys : List Int}
    (hs : Rds w B 1 (some ad) n (ints xs)) (hr : Rds w B' 1 A' m (ints ys)) (hB : B ≤ w.heap.size) (hlen : n + m ≤ 1000000000) (hgd : o.guard = none)
    (ho : o.op = .call { callee := .builtin .append, args := #[s, x], argTypes := #[51, 51] }) (hs1 : a.eval s = .slice (some ad) n n) (hx : a.eval x = .slice A' m c)
    (h : ∀ A2 c2 w', n + m ≤ c2 → c2 ≤ maxLen → Rds w' w'.heap.size 1 A2 (n + m) (ints (xs ++ ys)) → w.grownBy w' none → (∀ y, A2 = some y → y = ad ∨ (w.heap.size ≤ y.block ∧ y.block < w'.heap.size)) → K (a.put o.dst (.slice A2 (n + m) c2)) w') :
    if Region.wanted o (yielded ops a.tmps) = true then Oper.wp Try.prog o a w K Q else E := by
  obtain ⟨i0, hi0, hz0, hz1, hz2⟩ := info_parts int_info
  rcases Nat.eq_zero_or_pos m with h0 | h0
  · subst h0
    have hys : ys = [] := List.eq_nil_of_length_eq_zero hr.ints_len
    subst hys
    have hw : Region.wanted o (yielded ops a.tmps) = true := by simp [Region.wanted, hgd]
    rw [if_pos hw]
    have hrun := run_append_zero (P := Try.prog) w 51 o.type 3 i0 Try.underlying51 hi0 (some ad) A' n n c (Nat.le_refl _)
    unfold Oper.wp
    simp [execOp, ho, resolve, invoke, builtin, hs1, hx, hrun, Result.andThen]
    refine h (some ad) n w (by omega) (by unfold maxLen; omega) (by simpa using hs.more hB) (World.grownBy.refl w _) (fun y hy => .inl ?_)
    injection hy with hy; exact hy.symm
  · obtain ⟨b2, o2, rfl, _, c2⟩ := hr.2 h0
    have addr : ∀ (x : Addr) (j : Nat), x.spot = none → x.add j = ⟨x.block, x.off + j, none⟩ := fun x j hx => by
      obtain ⟨b, off, sp⟩ := x
      simp at hx; subst hx
      by_cases hj : j = 0
      · subst hj; simp [Addr.add]
      · simp [Addr.add, hj]
    refine step_append_grows hgd s x _ ho 3 i0 _ 1 8 Try.underlying51 hi0 hz0 hz1 hz2 rfl (by omega) (some ad) n n (ints xs) hs1 (fun e => absurd e (Option.some_ne_none _)) hs.1 (fun b e j u hu => ?_)
      ⟨b2, o2, none⟩ m c (ints ys) hx hr.1 (fun j u hu => by rw [addr _ _ rfl]; exact c2 j u hu) (ints_one _) (by omega) (by unfold maxLen; omega) (by omega) ?_
    · injection e with e
      subst e
      have hjn : 0 < n := by
        rcases Nat.eq_zero_or_pos n with k | k
        · have := hs.ints_len; rw [k] at this; have := List.eq_nil_of_length_eq_zero this; subst this; simp [ints] at hu
        · exact k
      obtain ⟨b1, o1, e1, _, c1⟩ := hs.2 hjn
      injection e1 with e1
      subst e1
      rw [addr _ _ rfl]; exact c1 j u hu
    · intro v' w' h1 h2
      obtain ⟨A2, cc, rfl, q1, q2⟩ := own_slice h1
      refine h A2 cc w' q1 q2 (by rw [ints_append]; exact Rds.of_own h1) h2 (fun y hy => .inr ?_)
      subst hy
      exact h1.lt _ rfl
end Go.Proofs.Ytehlijnhhbdbhaa
