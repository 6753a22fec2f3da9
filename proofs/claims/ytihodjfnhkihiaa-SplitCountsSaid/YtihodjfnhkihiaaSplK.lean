/- turn of the program: walked. -/
import Derived.Test.YtihodjfnhkihiaaSplF
import Derived.Test.YtihodjfnhkihiaaSpQ
import Derived.Laws.OwnMore
namespace Go.Proofs.Ytihodjfnhkihiaa
open Go.RowKit
set_option linter.unusedVariables false
set_option maxRecDepth 100000 in
set_option maxHeartbeats 1000000 in
theorem turn_2 (x y : Int × Int) (base g c : Nat) (w : World) (hown : w.ownsRow base 31 2 (.slice (some ⟨g, 0, none⟩) 2 c) 2 (rngs [x, y])) :
    Calls Try.prog 39 #[.slice (some ⟨g, 0, none⟩) 2 c, .bool true] w fun e w' => e = .returned (.slice (some ⟨g, 0, none⟩) 2 c) ∧ w'.ownsRow base 31 2 (.slice (some ⟨g, 0, none⟩) 2 c) 2 (rngs [y, x]) ∧ w.grownBy w' (some g) := by
  obtain ⟨x1, x2⟩ := x
  obtain ⟨y1, y2⟩ := y
  have c0 := hown.cellAt 0 (by decide)
  have c1 := hown.cellAt 1 (by decide)
  have c2 := hown.cellAt 2 (by decide)
  have c3 := hown.cellAt 3 (by decide)
  have f0 := hown.frozenAt 0
  have f1 := hown.frozenAt 1
  have f2 := hown.frozenAt 2
  have f3 := hown.frozenAt 3
  simp [rngs] at c0 c1 c2 c3
  have HO := Lib.hid hown
  clear hown
  go_enter Try.func39, Try.ntmps39
  go_wp2_with fail
  go_loopw [5] (fun i wr => (i = .int .i64 0 ∧ wr = w) ∨ (i = .int .i64 2 ∧ Hid (wr.ownsRow base 31 2 (.slice (some ⟨g, 0, none⟩) 2 c) 2 (rngs [(y1, y2), (x1, x2)])) ∧ Hid (w.grownBy wr (some g)))) (fun i _ => 2 - (intOf i).toNat)
  case atStart => exact .inl ⟨rfl, rfl⟩
  case round =>
    rcases hrel with ⟨rfl, rfl⟩ | ⟨rfl, HR, HG⟩
    · go_wp2_with fail
      go_region
      have s0 := HO.out.stored 0 (.int .i64 y1)
      have s1 := s0.1.stored 1 (.int .i64 y2)
      have s2 := s1.1.stored 2 (.int .i64 x1)
      have s3 := s2.1.stored 3 (.int .i64 x2)
      have HR := Lib.hid (World.ownsRow.drew s3.1)
      have HG := Lib.hid (show wr.grownBy _ (some g) from ((s0.2.trans s1.2).trans s2.2).trans s3.2)
      clear s0 s1 s2 s3
      go_wp2_with fail
      exact ⟨.inr ⟨rfl, HR, Lib.hid ⟨HG.out.os, HG.out.tape, HG.out.output, HG.out.size, HG.out.block⟩⟩, by simp [intOf]⟩
    · go_wp2
      go_ret
      exact ⟨rfl, HR.out, HG.out⟩
set_option maxRecDepth 100000 in
set_option maxHeartbeats 1000000 in
theorem turn_4 (x y z u : Int × Int) (base g c : Nat) (w : World) (hown : w.ownsRow base 31 2 (.slice (some ⟨g, 0, none⟩) 4 c) 4 (rngs [x, y, z, u])) :
    Calls Try.prog 39 #[.slice (some ⟨g, 0, none⟩) 4 c, .bool true] w fun e w' => e = .returned (.slice (some ⟨g, 0, none⟩) 4 c) ∧ w'.ownsRow base 31 2 (.slice (some ⟨g, 0, none⟩) 4 c) 4 (rngs [y, x, u, z]) ∧ w.grownBy w' (some g) := by
  obtain ⟨x1, x2⟩ := x
  obtain ⟨y1, y2⟩ := y
  obtain ⟨z1, z2⟩ := z
  obtain ⟨u1, u2⟩ := u
  have HO := Lib.hid hown
  clear hown
  go_enter Try.func39, Try.ntmps39
  go_wp2_with fail
  go_loopw [5] (fun i wr => (i = .int .i64 0 ∧ Hid (wr.ownsRow base 31 2 (.slice (some ⟨g, 0, none⟩) 4 c) 4 (rngs [(x1, x2), (y1, y2), (z1, z2), (u1, u2)])) ∧ Hid (w.grownBy wr (some g))) ∨ (i = .int .i64 2 ∧ Hid (wr.ownsRow base 31 2 (.slice (some ⟨g, 0, none⟩) 4 c) 4 (rngs [(y1, y2), (x1, x2), (z1, z2), (u1, u2)])) ∧ Hid (w.grownBy wr (some g))) ∨ (i = .int .i64 4 ∧ Hid (wr.ownsRow base 31 2 (.slice (some ⟨g, 0, none⟩) 4 c) 4 (rngs [(y1, y2), (x1, x2), (u1, u2), (z1, z2)])) ∧ Hid (w.grownBy wr (some g)))) (fun i _ => 4 - (intOf i).toNat)
  case atStart => exact .inl ⟨rfl, HO, Lib.hid (World.grownBy.refl _ _)⟩
  case round =>
    rcases hrel with ⟨rfl, HR0, HG0⟩ | ⟨rfl, HR0, HG0⟩ | ⟨rfl, HR0, HG0⟩
    · have c0 := HR0.out.cellAt 0 (by decide)
      have c1 := HR0.out.cellAt 1 (by decide)
      have c2 := HR0.out.cellAt 2 (by decide)
      have c3 := HR0.out.cellAt 3 (by decide)
      have f0 := HR0.out.frozenAt 0
      have f1 := HR0.out.frozenAt 1
      have f2 := HR0.out.frozenAt 2
      have f3 := HR0.out.frozenAt 3
      simp [rngs] at c0 c1 c2 c3
      go_wp2_with fail
      go_region
      have s0 := HR0.out.stored 0 (.int .i64 y1)
      have s1 := s0.1.stored 1 (.int .i64 y2)
      have s2 := s1.1.stored 2 (.int .i64 x1)
      have s3 := s2.1.stored 3 (.int .i64 x2)
      have HR := Lib.hid (World.ownsRow.drew s3.1)
      have hg := (((HG0.out.trans s0.2).trans s1.2).trans s2.2).trans s3.2
      have HG := Lib.hid hg
      clear s0 s1 s2 s3 hg
      go_wp2_with fail
      exact ⟨.inr <| .inl ⟨rfl, HR, Lib.hid ⟨HG.out.os, HG.out.tape, HG.out.output, HG.out.size, HG.out.block⟩⟩, by simp [intOf]⟩
    · have c0 := HR0.out.cellAt 4 (by decide)
      have c1 := HR0.out.cellAt 5 (by decide)
      have c2 := HR0.out.cellAt 6 (by decide)
      have c3 := HR0.out.cellAt 7 (by decide)
      have f0 := HR0.out.frozenAt 4
      have f1 := HR0.out.frozenAt 5
      have f2 := HR0.out.frozenAt 6
      have f3 := HR0.out.frozenAt 7
      simp [rngs] at c0 c1 c2 c3
      go_wp2_with fail
      go_region
      have s0 := HR0.out.stored 4 (.int .i64 u1)
      have s1 := s0.1.stored 5 (.int .i64 u2)
      have s2 := s1.1.stored 6 (.int .i64 z1)
      have s3 := s2.1.stored 7 (.int .i64 z2)
      have HR := Lib.hid (World.ownsRow.drew s3.1)
      have hg := (((HG0.out.trans s0.2).trans s1.2).trans s2.2).trans s3.2
      have HG := Lib.hid hg
      clear s0 s1 s2 s3 hg
      go_wp2_with fail
      exact ⟨.inr <| .inr ⟨rfl, HR, Lib.hid ⟨HG.out.os, HG.out.tape, HG.out.output, HG.out.size, HG.out.block⟩⟩, by simp [intOf]⟩
    · go_wp2
      go_ret
      exact ⟨rfl, HR0.out, HG0.out⟩
set_option maxRecDepth 100000 in
theorem turn_no (v : Value) (hv : ∃ A n c, v = .slice A n c) (w : World) : Calls Try.prog 39 #[v, .bool false] w fun e w' => e = .returned v ∧ w' = w := by
  obtain ⟨A, n, c, rfl⟩ := hv
  go_enter Try.func39, Try.ntmps39
  go_wp2_with fail
  go_loopw [5] (fun i wr => wr = w) (fun i _ => 0)
  case atStart => rfl
  case round =>
    subst hrel
    go_wp2
    go_ret
    exact ⟨rfl, rfl⟩
/-- turn, of a road of two or four bytes that the caller owns -/
theorem turn_all (little : Bool) (r : List (Int × Int)) (base n c : Nat) (A : Option Addr) (w : World) (hr : r.length = 2 ∨ r.length = 4) (hown : w.ownsRow base 31 2 (.slice A n c) n (rngs r)) :
    Calls Try.prog 39 #[.slice A n c, .bool little] w fun e w' => e = .returned (.slice A n c) ∧ w'.ownsRow base 31 2 (.slice A n c) n (rngs (if little = true then turnL r else r)) ∧ w.grownBy w' (Value.slice A n c).ownBlock := by
  cases little
  · refine (turn_no _ ⟨A, n, c, rfl⟩ w).mono ?_
    rintro e w' ⟨rfl, rfl⟩
    exact ⟨rfl, hown, World.grownBy.refl _ _⟩
  · have hn : n = r.length := by have h := hown.1; rw [rngs_length] at h; omega
    subst hn
    rcases hown.2 with ⟨h1, _⟩ | ⟨g, cap, cur, h1, _⟩
    · injection h1 with _ h2
      omega
    · injection h1 with h1 h2 h3
      subst h1
      rcases hr with hr | hr
      · match r, hr with
        | [x, y], _ => exact turn_2 x y base g c w hown
      · match r, hr with
        | [x, y, z, u], _ => exact turn_4 x y z u base g c w hown
end Go.Proofs.Ytihodjfnhkihiaa
