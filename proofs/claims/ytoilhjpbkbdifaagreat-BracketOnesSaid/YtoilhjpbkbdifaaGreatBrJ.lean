/- Small things of the law of single points: a number in a row, one chosen, a row that grows while the old one is kept: walked. -/
import Derived.Test.YtoilhjpbkbdifaaGreatBrH
import Derived.Test.YtoilhjpbkbdifaaGreatSetI
import Derived.Test.YtoilhjpbkbdifaaGreatSetC
import Derived.Deep.DeepAppendRoom
import Derived.Deep.RegionLawGrows
set_option linter.unusedVariables false
set_option linter.unusedSimpArgs false
namespace Go.Proofs.YtoilhjpbkbdifaaGreat
open Go.RowKit
def hasI (l : List Int) (x : Int) : Bool := l.any fun y => y == x
theorem hasI_iff (l : List Int) (x : Int) : hasI l x = true ↔ x ∈ l := by simp [hasI]
theorem hasI_at {l : List Int} {x : Int} (k : Nat) (h : k < l.length) (hx : l[k] = x) : hasI l x = true := by
  rw [hasI_iff, ← hx]; exact List.getElem_mem h
theorem hasI_snoc (l : List Int) (y x : Int) : hasI (l ++ [y]) x = (hasI l x || y == x) := by simp [hasI]
theorem hasI_all {l : List Int} {x : Int} (h : hasI (l.take l.length) x = false) : hasI l x = false := by rwa [List.take_length] at h
set_option maxHeartbeats 1000000 in
theorem hasInt10 (l : List Int) (x : Int) (A : Option Addr) (n c : Nat) (w : World) (hn : n ≤ maxLen) (ha : Rds w w.heap.size 1 A n (ints l)) :
    Calls Tryz.prog 10 #[.slice A n c, .int .i64 x] w fun e w' => e = .returned (.bool (hasI l x)) ∧ w = w' := by
  have HL := Lib.hid ha.ints_len
  unfold maxLen at hn
  go_enter Tryz.func10, Tryz.ntmps10
  go_wp2_with fail
  go_loop [5] (fun i => ∃ k : Nat, k ≤ n ∧ i = .int .i64 k ∧ hasI (l.take k) x = false) (fun i => n - (intOf i).toNat)
  case atStart => exact ⟨0, Nat.zero_le _, rfl, rfl⟩
  case round =>
    obtain ⟨k, hk, rfl, hall⟩ := hrel
    have HALL := Lib.hid hall
    clear hall
    by_cases hlt : k < n
    · obtain ⟨b1, off1, hl1, hA, hb1, hc1⟩ := ha.int_at hlt
      subst hA
      have HT := Lib.hid (take_snoc' l k hl1)
      have HM := Lib.hid (hasI_at (x := x) k hl1)
      obtain ⟨y, hy⟩ : ∃ r, r = l[k] := ⟨_, rfl⟩
      rw [← hy] at hc1 HT HM
      clear hy
      by_cases hxy : y = x
      · subst hxy
        go_wp2
        go_ret
        exact ⟨ret_bool (HM.out (by trivial)).symm, rfl⟩
      · have hb : (y == x) = false := beq_eq_false_iff_ne.2 hxy
        have HB := Lib.hid hb
        clear hxy
        go_wp2
        go_round
        case rel => exact ⟨k + 1, by omega, by go_num, by rw [HT.out, hasI_snoc, HALL.out, HB.out]; rfl⟩
        case measure => simp [intOf]; omega
    · obtain rfl : k = n := by omega
      go_wp2
      go_ret
      exact ⟨ret_bool (hasI_all (by rw [HL.out]; exact HALL.out)).symm, rfl⟩
theorem tmod62 (x : Int) : (0 ≤ x → 0 ≤ Int.tmod x 62 ∧ Int.tmod x 62 < 62) ∧ (x < 0 → 0 ≤ -(Int.tmod (x + 1) 62) ∧ -(Int.tmod (x + 1) 62) < 62) := by
  refine ⟨fun h => ⟨Int.tmod_nonneg _ h, Int.tmod_lt_of_pos _ (by omega)⟩, fun h => ?_⟩
  rw [← Int.neg_tmod]
  exact ⟨Int.tmod_nonneg _ (by omega), Int.tmod_lt_of_pos _ (by omega)⟩
set_option maxRecDepth 100000 in
theorem choose5 (x : Int) (w : World) (h0 : -9223372036854775808 ≤ x) (h1 : x ≤ 9223372036854775807) : Calls Tryz.prog 5 #[.int .i64 x, .int .i64 62] w fun e w' => (∃ r : Int, 0 ≤ r ∧ r < 62 ∧ e = .returned (.int .i64 r)) ∧ w = w' := by
  have HT := Lib.hid (tmod62 x)
  by_cases hx : x < 0
  · go_enter Tryz.func5, Tryz.ntmps5
    go_wp2_with fail
    go_ret
    exact ⟨⟨-(Int.tmod (x + 1) 62), (HT.out.2 hx).1, (HT.out.2 hx).2, rfl⟩, rfl⟩
  · go_enter Tryz.func5, Tryz.ntmps5
    go_wp2_with fail
    go_ret
    exact ⟨⟨x % 62, by omega, by omega, rfl⟩, rfl⟩
/-- a row of the call's own grows: the new one, and the old one, which still reads as it did -/
theorem app_keep {w : World} {ops : Array Oper} {rest : List Oper} {o : Oper} {a : Act} {Q : Exit → Act → World → Prop} (s x : Operand) {base B g n m c cap : Nat} {A : Option Addr} {xs ys : List Int}
    (hown : w.ownsRow base 3 1 (.slice (some ⟨g, 0, none⟩) n cap) n (ints xs)) (hr : Rds w B 1 A m (ints ys)) (hm : 0 < m) (hn : 0 < n) (hlen : n + m ≤ 1000000000) (hbase : base ≤ w.heap.size) (hgd : o.guard = none)
    (ho : o.op = .call { callee := .builtin .append, args := #[s, x], argTypes := #[22, 22] }) (hs : a.eval s = .slice (some ⟨g, 0, none⟩) n cap) (hx : a.eval x = .slice A m c)
    (h : ∀ A' c' w', Rds w' w'.heap.size 1 A' (n + m) (ints (xs ++ ys)) → n + m ≤ c' → c' ≤ maxLen → Rds w' w'.heap.size 1 (some ⟨g, 0, none⟩) n (ints xs) → Below base w w' → (∀ (b2 e2 s2 n2 : Nat) (v2 : Value) (ys2 : List Value), w.ownsRow b2 e2 s2 v2 n2 ys2 → e2 ≠ 3 → w'.ownsRow b2 e2 s2 v2 n2 ys2) → wpList Tryz.prog ops Q rest (a.put o.dst (.slice A' (n + m) c')) w') :
    wpList Tryz.prog ops Q (o :: rest) a w := by
  obtain ⟨i0, hi0, hz0, hz1, hz2⟩ := info_parts int_info
  obtain ⟨b2, o2, rfl, hb2, c2⟩ := hr.2 hm
  have hxl : xs.length = n := by have := hown.1; rw [ints_length] at this; omega
  have addr : ∀ (b off j : Nat), (⟨b, off, none⟩ : Addr).add j = ⟨b, off + j, none⟩ := fun b off j => by
    by_cases hj : j = 0
    · subst hj; simp [Addr.add]
    · simp [Addr.add, hj]
  by_cases hroom : n + m ≤ cap
  · refine wpList_append_own_spare w hgd s x _ ho base 3 i0 1 Tryz.underlying22 hi0 hz1 g n cap _ hs hown ⟨b2, o2, none⟩ m c _ hx hr.1 (fun j u hu => by rw [addr]; exact c2 j u hu) (ints_one _) hroom ?_
    intro w' h1 h2
    have h1' : w'.ownsRow base 3 1 (.slice (some ⟨g, 0, none⟩) (n + m) cap) (n + m) (ints (xs ++ ys)) := by rw [ints_append]; exact h1
    have hR := Rds.of_own h1'
    have hcap : cap ≤ maxLen := by obtain ⟨_, _, hv, _, q⟩ := own_slice h1'; injection hv with _ _ e; omega
    refine h _ _ _ hR hroom hcap ?_ ?_ ?_
    · have := hR.first (k := n) (by omega)
      rw [Nat.mul_one, ints_append, List.take_left' (by rw [ints_length]; exact hxl)] at this
      exact this
    · exact (Below.refl base w).grown h2 hbase (fun k hk => (hown.lt k hk).1)
    · intro b3 e3 s3 n3 v3 ys3 hv hne
      exact hv.kept h2 (by
        rcases hv3 : v3.ownBlock with _ | g3
        · exact .inl rfl
        · exact .inr (fun e => own_ne_type hv hown hne g3 hv3 (by rw [Value.ownBlock]; exact e.symm)))
  · refine wpList_plain hgd fun _ hK => ?_
    have key := step_append_grows (P := Tryz.prog) (ops := ops) (o := o) (a := a) (w := w) (Q := Q) (E := True) hgd s x _ ho 3 i0 _ 1 8 Tryz.underlying22 hi0 hz0 hz1 hz2 rfl (by omega) (some ⟨g, 0, none⟩) n cap (ints xs) hs (fun e => absurd e (Option.some_ne_none _)) hown.1 (fun b e j u hu => by rw [← Option.some.inj e]; exact hown.cells (g := g) rfl j u hu) ⟨b2, o2, none⟩ m c (ints ys) hx hr.1 (fun j u hu => by rw [addr]; exact c2 j u hu) (ints_one _) (by omega) (by unfold maxLen; omega) (by omega) (fun v' w' h1 h2 => by
      have h1' : w'.ownsRow w.heap.size 3 1 v' (n + m) (ints (xs ++ ys)) := by rw [ints_append]; exact h1
      obtain ⟨A', c', rfl, q1, q2⟩ := own_slice h1'
      refine hK _ _ (h _ _ _ (Rds.of_own h1') q1 q2 ?_ ?_ ?_)
      · exact Rds.of_own (hown.kept h2 (.inr (by simp [Value.ownBlock])))
      · exact (Below.refl base w).grown h2 hbase (fun k hk => by cases hk)
      · intro b3 e3 s3 n3 v3 ys3 hv hne
        exact hv.kept h2 (by
          rcases hv3 : v3.ownBlock with _ | g3
          · exact .inl rfl
          · exact .inr (by simp)))
    rwa [if_pos (by simp [Region.wanted, hgd])] at key
end Go.Proofs.YtoilhjpbkbdifaaGreat
