/- GroupsOf, IsPlain of the reference: walked. -/
import Derived.Test.YtbekjfoefjnidaaDoorFsP
import Derived.Test.YtbekjfoefjnidaaDoorSetB
namespace Go.Proofs.YtbekjfoefjnidaaDoor
open Go.RowKit
set_option linter.unusedVariables false
theorem between_keep (p a b : Int) (w : World) : Calls Tryd.prog 19 #[.int .i64 p, .int .i64 a, .int .i64 b] w fun e w' => e = .returned (.bool (decide (a ≤ p) && decide (p ≤ b))) ∧ w = w' :=
  (between_any p a b w).mono fun _ _ ⟨h1, h2⟩ => ⟨h1, h2.symm⟩
theorem grpL_take (l : List Tr) (k : Nat) (h : k < l.length) : (grpL (l.take (k + 1)) : Int) = (grpL (l.take k) : Int) + if l[k].kind = 11 then 1 else 0 := by
  rw [take_snoc' l k h, grpL_append]
  unfold grpL
  by_cases h1 : l[k].kind = 11
  · rw [if_pos h1, List.filter_cons_of_pos (by simpa using h1)]; simp
  · rw [if_neg h1, List.filter_cons_of_neg (by simpa using h1)]; simp
/-- a row of nodes, read -/
theorem KidsAt.kind_at {w : World} {B : Nat} {ts : List Tr} {ds : List ND} (h : KidsAt w B ts ds) {k : Nat} (h1 : k < ts.length) (h2 : k < ds.length) : ds[k].kind = ts[k].kind ∧ ds[k].num = ts[k].num := by
  obtain ⟨x, hx⟩ := (h.at k h1 h2).of
  exact ⟨hx.kind, hx.num⟩
def plB (k : Int) : Bool := !((decide (3 ≤ k) && decide (k ≤ 8)) || (decide (14 ≤ k) && decide (k ≤ 18)))
theorem plainT_pl (t : Tr) : plainT t = (flatT t).all fun x => plB x.kind := rfl
end Go.Proofs.YtbekjfoefjnidaaDoor
