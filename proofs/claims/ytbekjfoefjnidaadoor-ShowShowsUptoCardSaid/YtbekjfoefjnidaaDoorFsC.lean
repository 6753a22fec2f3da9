/- the checker's node: walked. -/
import Derived.Test.YtbekjfoefjnidaaDoorFsB
import Derived.Test.YtbekjfoefjnidaaDoorSetJ
import Derived.Deep.RegionLaw
namespace Go.Proofs.YtbekjfoefjnidaaDoor
open Go.RowKit
set_option linter.unusedVariables false
theorem sls_one {w : World} {A : Option Addr} {n c : Nat} {a : List (Int × Int)} (hnc : n ≤ c) (hc : c ≤ maxLen) (ha : Rds w w.heap.size 2 A n (rngs a)) : Sls w w.heap.size [.slice A n c] [a] :=
  ⟨rfl, fun k h h' => by
    obtain rfl : k = 0 := by simp at h; omega
    exact ⟨A, n, c, rfl, hnc, hc, ha⟩⟩
theorem Sls.more {w : World} {X Y : Nat} {vs : List Value} {ls : List (List (Int × Int))} (h : Sls w X vs ls) (hx : X ≤ Y) : Sls w Y vs ls :=
  ⟨h.1, fun k h1 h2 => by obtain ⟨A, n, c, e, a1, a2, a3⟩ := h.2 k h1 h2; exact ⟨A, n, c, e, a1, a2, a3.more hx⟩⟩
theorem chkL_one (a : List (Int × Int)) : chkL [a] = chk a := by simp only [chkL]; split <;> simp [*]
set_option maxHeartbeats 1000000 in
theorem check48 (a : List (Int × Int)) (A : Option Addr) (n c : Nat) (w : World) (hnc : n ≤ c) (hc : c ≤ maxLen) (ha : Rds w w.heap.size 2 A n (rngs a)) :
    Calls Tryd.prog 28 #[.slice A n c] w fun e w' => e = .returned (.int .i64 (chk a)) ∧ Below w.heap.size w w' := by
  have HA := Lib.hid ha.rngs_len
  go_enter Tryd.func28, Tryd.ntmps28
  go_wp2_with fail
  have hb0 : Below w.heap.size w (w.alloc (.cells #[.slice A n c] 22)) := by go_grown
  refine (check80 [a] [.slice A n c] _ _ _ _ (by decide) ((Rds.new w 1 1 #[.slice A n c] 22 [.slice A n c] rfl rfl).more (by simp)) ((sls_one hnc hc ha).below hb0 (Nat.le_refl _) |>.more (by simp))).mono ?_
  rintro e w1 ⟨rfl, hb⟩
  go_wp2
  go_ret
  exact ⟨ret_int (chkL_one a), hb0.trans (hb.mono (by simp))⟩
/-- the numbers of what is had again -/
def agL (l : List Tr) : List Int := (l.filter fun x => x.kind == 18).map (·.num)
theorem agL_append (a b : List Tr) : agL (a ++ b) = agL a ++ agL b := by simp [agL]
theorem agL_one (t : Tr) : agL [t] = if t.kind = 18 then [t.num] else [] := by
  by_cases h : t.kind = 18 <;> simp [agL, h]
theorem stepE_le (x : Tr) (g : Int) : g ≤ (stepE x g).2 ∧ (stepE x g).2 ≤ g + 1 := by
  unfold stepE
  split
  · simp only; omega
  · split
    · split <;> (simp only; omega)
    · simp only; omega
theorem seqE_le (l : List Tr) (g : Int) : g ≤ (seqE l g).2 ∧ (seqE l g).2 ≤ g + (l.length : Nat) := by
  induction l generalizing g with
  | nil => simp [seqE]
  | cons x l ih =>
    have h := stepE_le x g
    have h2 := ih (stepE x g).2
    rw [seqE]
    split
    · simp only [List.length_cons]; omega
    · simp only [List.length_cons]; omega
theorem nodeE_le (t : Tr) (g : Int) : g ≤ (nodeE t g).2 ∧ (nodeE t g).2 ≤ g + (sizeT t : Nat) := by
  rw [nodeE_seq, ← flatT_len]; exact seqE_le _ _
theorem agL_len (l : List Tr) : (agL l).length ≤ l.length := by
  unfold agL; rw [List.length_map]; exact List.length_filter_le _ _
theorem nodesE_drop (ks : List Tr) (k : Nat) (h : k < ks.length) (g : Int) : nodesE (ks.drop k) g = if (nodeE ks[k] g).1 ≠ 0 then nodeE ks[k] g else nodesE (ks.drop (k + 1)) (nodeE ks[k] g).2 := by
  rw [List.drop_eq_getElem_cons h, nodesE]
theorem agL_drop (ks : List Tr) (k : Nat) (h : k < ks.length) (l : List Int) : l ++ agL (flatL (ks.drop k)) = (l ++ agL (flatT ks[k])) ++ agL (flatL (ks.drop (k + 1))) := by
  rw [List.drop_eq_getElem_cons h, flatL, agL_append, List.append_assoc]
theorem sizeL_drop (ks : List Tr) (k : Nat) (h : k < ks.length) : sizeL (ks.drop k) = sizeT ks[k] + sizeL (ks.drop (k + 1)) := by
  rw [List.drop_eq_getElem_cons h, sizeL]
/-- the checker, in its block cb: how many groups, and the numbers of what is had again -/
structure CkAt (w : World) (B cb : Nat) (g : Int) (l : List Int) : Prop where
  lo : B ≤ cb
  hi : cb < w.heap.size
  f0 : w.frozen? ⟨cb, 0, none⟩ = false
  f1 : w.frozen? ⟨cb, 1, none⟩ = false
  c0 : w.cell? ⟨cb, 0, none⟩ = some (.int .i64 g)
  ex : ∃ A n c, w.cell? ⟨cb, 1, none⟩ = some (.slice A n c) ∧ w.ownsRow (cb + 1) 3 1 (.slice A n c) n (ints l)
theorem CkAt.next {w w' : World} {B cb : Nat} {g : Int} {l : List Int} (h : CkAt w B cb g l) (hb : Below w.heap.size w w') : CkAt w' B cb g l := by
  obtain ⟨h1, h2, h3, h4, h5, A, n, c, h6, h7⟩ := h
  exact ⟨h1, Nat.lt_of_lt_of_le h2 hb.size, by rw [hb.frozen (p := ⟨cb, 0, none⟩) h2]; exact h3, by rw [hb.frozen (p := ⟨cb, 1, none⟩) h2]; exact h4, by rw [hb.cell (p := ⟨cb, 0, none⟩) h2]; exact h5, A, n, c, by rw [hb.cell (p := ⟨cb, 1, none⟩) h2]; exact h6, own_below h7 hb (Nat.le_refl _)⟩
theorem CkAt.drewN {w : World} {B cb : Nat} {g : Int} {l : List Int} (h : CkAt w B cb g l) (q : Nat) : CkAt (w.drewN q) B cb g l := h.next (below_drewN (Below.refl _ _) q)
theorem CkAt.count {w : World} {B cb : Nat} {g : Int} {l : List Int} (h : CkAt w B cb g l) (g' : Int) : CkAt (w.setCell ⟨cb, 0, none⟩ (.int .i64 g')) B cb g' l := by
  obtain ⟨h1, h2, h3, h4, h5, A, n, c, h6, h7⟩ := h
  exact ⟨h1, by simpa using h2, by rw [World.frozen?_setCell]; exact h3, by rw [World.frozen?_setCell]; exact h4, World.cell?_setCell_same _ _ _ h5, A, n, c, (World.cell?_setCell_other _ _ _ _ (by simp)).trans h6, ownsRow_setCell_below h7 (Nat.lt_succ_self _) _⟩
theorem CkAt.app {w w3 : World} {B cb n : Nat} {g : Int} {l l' : List Int} {v v3 : Value} {n3 : Nat} (h : CkAt w B cb g l) (ho : w.ownsRow (cb + 1) 3 1 v n (ints l)) (hg : w.grownBy w3 v.ownBlock) (h3 : w3.ownsRow (cb + 1) 3 1 v3 n3 (ints l')) :
    CkAt (w3.setCell ⟨cb, 1, none⟩ v3) B cb g l' := by
  obtain ⟨h1, h2, h3', h4, h5, A, n', c, h6, h7⟩ := h
  have hne : (some cb : Option Nat) ≠ v.ownBlock := fun e => absurd (ho.lt cb e.symm).1 (by omega)
  have hbl := hg.block cb h2 hne
  obtain ⟨A3, c3, rfl, _, _⟩ := own_slice h3
  exact ⟨h1, by have := hg.size; simp; omega, by rw [World.frozen?_setCell, World.frozen?_of_block (a := ⟨cb, 0, none⟩) hbl]; exact h3', by rw [World.frozen?_setCell, World.frozen?_of_block (a := ⟨cb, 1, none⟩) hbl]; exact h4, (World.cell?_setCell_other _ _ _ _ (by simp)).trans (hg.cell h5 hne), A3, n3, c3, World.cell?_setCell_same _ _ _ (hg.cell h6 hne), ownsRow_setCell_below h3 (Nat.lt_succ_self _) _⟩

/-- what the checker's node says -/
def NodeSaid (t : Tr) (g : Int) (l : List Int) (w : World) (cb B : Nat) (e : Ending) (w' : World) : Prop :=
  e = .returned (.int .i64 (nodeE t g).1) ∧ Below B w w' ∧ Hid ((nodeE t g).1 = 0 → CkAt w' B cb (nodeE t g).2 (l ++ agL (flatT t)))
def NodeLaw (t : Tr) : Prop := ∀ (g : Int) (l : List Int) (d : ND) (w : World) (cb B : Nat), NodeAt w B t d → CkAt w B cb g l → 0 ≤ g → g + (sizeT t : Nat) ≤ 100000 → l.length + sizeT t ≤ 100000 →
    Calls Tryd.prog 15 #[.pointer (some ⟨cb, 0, none⟩), d.agg] w (NodeSaid t g l w cb B)
/-- one that is wrong by itself -/
theorem said_bad {t : Tr} {g : Int} {l : List Int} {w w' : World} {cb B : Nat} {r : Int} (h : rightE t = r) (hr : r ≠ 0) (hb : Below B w w') : NodeSaid t g l w cb B (.returned (.int .i64 r)) w' := by
  have h1 : stepE t g = (r, g) := by unfold stepE; rw [h, if_pos hr]
  have h2 : nodeE t g = (r, g) := by rw [nodeE_eq, h1, if_pos hr]
  unfold NodeSaid
  rw [h2]
  exact ⟨rfl, hb, Lib.hid fun h => absurd h hr⟩
theorem node_go {t : Tr} {g g1 : Int} (h : stepE t g = (0, g1)) : nodeE t g = nodesE t.kids g1 := by
  rw [nodeE_eq, h, if_neg (by simp)]
theorem ag_go (t : Tr) (l : List Int) : l ++ agL (flatT t) = (l ++ agL [t]) ++ agL (flatL t.kids) := by
  rw [flatT_eq, ← List.singleton_append, agL_append, List.append_assoc]

set_option maxRecDepth 100000 in
set_option maxHeartbeats 4000000 in
theorem node_kind (t : Tr) (ih : ∀ k ∈ t.kids, NodeLaw k) (hk : t.kind < 1 ∨ 18 < t.kind) : NodeLaw t := by
  intro g l d w cb B hn hck g0 g2 l2
  obtain ⟨ds, hn⟩ := hn.of
  have hnw : NodeAt w w.heap.size t d := NodeAt.map (fun h => h.more (by have := hck.hi; have := hck.lo; omega)) _ _ hn.node
  have HN := Lib.hid hn
  have HNW := Lib.hid hnw
  have HK := Lib.hid hn.knum
  have IH := Lib.hid ih
  have HBB := Lib.hid ((ND.box_below w d).mono (show B ≤ w.heap.size by have := hck.hi; have := hck.lo; omega))
  have HX0 := Lib.hid (BoxN.new w d)
  have HCK := Lib.hid hck
  have HCK0 := Lib.hid (hck.next (ND.box_below w d))
  have hlo := hck.lo
  have hhi := hck.hi
  have HBD := Lib.hid (ND.box_below w d)
  have HNX := Lib.hid (hnw.next (ND.box_below w d))
  have hkc := hn.kc1
  have hkm := hn.kc2
  have hsc := hn.sc1
  have hsm := hn.sc2
  unfold maxLen at hkm hsm
  have HSZ := Lib.hid (sizeT_eq t)
  have EK := Lib.hid hn.kind
  have EN := Lib.hid hn.num
  have EL := Lib.hid hn.least
  have EM := Lib.hid hn.most
  have EW := Lib.hid hn.way
  have C46 := Lib.hid (kids46 d.kind (d.kn : Nat) (d.box w))
  have KB := Lib.hid (show kidsOk d.kind (d.kn : Nat) = !kidsBad t by rw [kidsBad_ok, Bool.not_not, hn.kind, hn.knum.1])
  have C47 := Lib.hid (fields47 t d (d.box w) (some ⟨cb, 0, none⟩) (hnw.next (ND.box_below w d)))
  clear hn hck ih hnw
  obtain ⟨dk, dsA, dsn, dsc, dkA, dkn, dkc, dnum, dleast, dmost, dway, dfold⟩ := d
  unfold ND.agg at *
  unfold ND.box at *
  simp only at hkc hkm hsc hsm HK EK EN EL EM EW C46 C47 HBB HX0 HCK0 HBD KB HNX
  have HR := Lib.hid (show rightE t = 7 by unfold rightE; rw [if_pos hk])
  rw [← EK.out] at hk
  clear C46 C47 KB
  by_cases h1 : dk < 1
  · go_enter Tryd.func15, Tryd.ntmps15
    go_wp2
    go_ret
    exact said_bad HR.out (by decide) HBB.out
  · have h2 : 18 < dk := by omega
    go_enter Tryd.func15, Tryd.ntmps15
    go_wp2
    go_ret
    exact said_bad HR.out (by decide) HBB.out

set_option maxRecDepth 100000 in
set_option maxHeartbeats 4000000 in
theorem node_kids (t : Tr) (ih : ∀ k ∈ t.kids, NodeLaw k) (hk : ¬ (t.kind < 1 ∨ 18 < t.kind)) (hb : kidsBad t = true) : NodeLaw t := by
  intro g l d w cb B hn hck g0 g2 l2
  obtain ⟨ds, hn⟩ := hn.of
  have hnw : NodeAt w w.heap.size t d := NodeAt.map (fun h => h.more (by have := hck.hi; have := hck.lo; omega)) _ _ hn.node
  have HN := Lib.hid hn
  have HNW := Lib.hid hnw
  have HK := Lib.hid hn.knum
  have IH := Lib.hid ih
  have HBB := Lib.hid ((ND.box_below w d).mono (show B ≤ w.heap.size by have := hck.hi; have := hck.lo; omega))
  have HX0 := Lib.hid (BoxN.new w d)
  have HCK := Lib.hid hck
  have HCK0 := Lib.hid (hck.next (ND.box_below w d))
  have hlo := hck.lo
  have hhi := hck.hi
  have HBD := Lib.hid (ND.box_below w d)
  have HNX := Lib.hid (hnw.next (ND.box_below w d))
  have hkc := hn.kc1
  have hkm := hn.kc2
  have hsc := hn.sc1
  have hsm := hn.sc2
  unfold maxLen at hkm hsm
  have HSZ := Lib.hid (sizeT_eq t)
  have EK := Lib.hid hn.kind
  have EN := Lib.hid hn.num
  have EL := Lib.hid hn.least
  have EM := Lib.hid hn.most
  have EW := Lib.hid hn.way
  have C46 := Lib.hid (kids46 d.kind (d.kn : Nat) (d.box w))
  have KB := Lib.hid (show kidsOk d.kind (d.kn : Nat) = !kidsBad t by rw [kidsBad_ok, Bool.not_not, hn.kind, hn.knum.1])
  have C47 := Lib.hid (fields47 t d (d.box w) (some ⟨cb, 0, none⟩) (hnw.next (ND.box_below w d)))
  clear hn hck ih hnw
  obtain ⟨dk, dsA, dsn, dsc, dkA, dkn, dkc, dnum, dleast, dmost, dway, dfold⟩ := d
  unfold ND.agg at *
  unfold ND.box at *
  simp only at hkc hkm hsc hsm HK EK EN EL EM EW C46 C47 HBB HX0 HCK0 HBD KB HNX
  have HR := Lib.hid (show rightE t = 1 by unfold rightE; rw [if_neg hk, if_pos (by rw [hb]; rfl)])
  rw [← EK.out] at hk
  rw [KB.out, hb] at C46
  clear KB C47 hb
  have h1 : ¬ dk < 1 := by omega
  have h2 : ¬ 18 < dk := by omega
  go_enter Tryd.func15, Tryd.ntmps15
  go_wp2_with (go_at_call 26; refine C46.out.mono ?_; rintro e w' ⟨rfl, rfl⟩)
  go_ret
  exact said_bad HR.out (by decide) HBB.out

set_option maxRecDepth 100000 in
set_option maxHeartbeats 4000000 in
theorem node_fields (t : Tr) (ih : ∀ k ∈ t.kids, NodeLaw k) (hk : ¬ (t.kind < 1 ∨ 18 < t.kind)) (hb : kidsBad t = false) (hf : fieldsBad t = true) : NodeLaw t := by
  intro g l d w cb B hn hck g0 g2 l2
  obtain ⟨ds, hn⟩ := hn.of
  have hnw : NodeAt w w.heap.size t d := NodeAt.map (fun h => h.more (by have := hck.hi; have := hck.lo; omega)) _ _ hn.node
  have HN := Lib.hid hn
  have HNW := Lib.hid hnw
  have HK := Lib.hid hn.knum
  have IH := Lib.hid ih
  have HBB := Lib.hid ((ND.box_below w d).mono (show B ≤ w.heap.size by have := hck.hi; have := hck.lo; omega))
  have HX0 := Lib.hid (BoxN.new w d)
  have HCK := Lib.hid hck
  have HCK0 := Lib.hid (hck.next (ND.box_below w d))
  have hlo := hck.lo
  have hhi := hck.hi
  have HBD := Lib.hid (ND.box_below w d)
  have HNX := Lib.hid (hnw.next (ND.box_below w d))
  have hkc := hn.kc1
  have hkm := hn.kc2
  have hsc := hn.sc1
  have hsm := hn.sc2
  unfold maxLen at hkm hsm
  have HSZ := Lib.hid (sizeT_eq t)
  have EK := Lib.hid hn.kind
  have EN := Lib.hid hn.num
  have EL := Lib.hid hn.least
  have EM := Lib.hid hn.most
  have EW := Lib.hid hn.way
  have C46 := Lib.hid (kids46 d.kind (d.kn : Nat) (d.box w))
  have KB := Lib.hid (show kidsOk d.kind (d.kn : Nat) = !kidsBad t by rw [kidsBad_ok, Bool.not_not, hn.kind, hn.knum.1])
  have C47 := Lib.hid (fields47 t d (d.box w) (some ⟨cb, 0, none⟩) (hnw.next (ND.box_below w d)))
  clear hn hck ih hnw
  obtain ⟨dk, dsA, dsn, dsc, dkA, dkn, dkc, dnum, dleast, dmost, dway, dfold⟩ := d
  unfold ND.agg at *
  unfold ND.box at *
  simp only at hkc hkm hsc hsm HK EK EN EL EM EW C46 C47 HBB HX0 HCK0 HBD KB HNX
  have HR := Lib.hid (show rightE t = 1 by unfold rightE; rw [if_neg hk, if_pos (by rw [hf, Bool.or_true])])
  rw [← EK.out] at hk
  rw [KB.out, hb] at C46
  rw [hf] at C47
  clear KB hb hf
  have h1 : ¬ dk < 1 := by omega
  have h2 : ¬ 18 < dk := by omega
  go_enter Tryd.func15, Tryd.ntmps15
  go_wp2_with (first | (go_at_call 26; refine C46.out.mono ?_; rintro e w' ⟨rfl, rfl⟩) | (go_at_call 27; refine C47.out.mono ?_; rintro e w1 ⟨rfl, hb1⟩))
  go_ret
  exact said_bad HR.out (by decide) (HBB.out.trans (hb1.mono (by have := HBB.out.size; omega)))
end Go.Proofs.YtbekjfoefjnidaaDoor
