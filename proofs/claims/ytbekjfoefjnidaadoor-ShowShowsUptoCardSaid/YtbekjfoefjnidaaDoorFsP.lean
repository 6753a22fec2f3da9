/- Flat of the reference: walked; rows of nodes. -/
import Derived.Test.YtbekjfoefjnidaaDoorFsA
import Derived.Test.YtbekjfoefjnidaaDoorFactP
namespace Go.Proofs.YtbekjfoefjnidaaDoor
open Go.RowKit
set_option linter.unusedVariables false
theorem node_info : (Tryd.prog.info? 25).map (fun i => (i.zero, i.size, i.bytes)) = some (some (.agg #[.int .i64 0, .slice none 0 0, .slice none 0 0, .int .i64 0, .int .i64 0, .int .i64 0, .int .i64 0, .bool false]), 8, 96) := by kernel_rfl
theorem nds_one (l : List ND) : ∀ u ∈ nds l, u.oneCell' = true := by
  induction l with
  | nil => intro u hu; simp [nds] at hu
  | cons d l ih =>
    intro u hu
    rw [nds, List.mem_append] at hu
    rcases hu with hu | hu
    · simp only [ND.vals, List.mem_cons, List.not_mem_nil, or_false] at hu
      rcases hu with rfl | rfl | rfl | rfl | rfl | rfl | rfl | rfl <;> rfl
    · exact ih u hu
theorem app_nodes {w : World} {ops : Array Oper} {rest : List Oper} {o : Oper} {a : Act} {Q : Exit → Act → World → Prop} (s x : Operand) {base B n m c : Nat} {A : Option Addr} {v : Value} {xs ys : List ND}
    (hown : w.ownsRow base 25 8 v n (nds xs)) (hr : Rds w B 8 A m (nds ys)) (hlen : n + m ≤ 1000000000) (hbase : base ≤ w.heap.size) (hgd : o.guard = none)
    (ho : o.op = .call { callee := .builtin .append, args := #[s, x], argTypes := #[23, 23] }) (hs : a.eval s = v) (hx : a.eval x = .slice A m c)
    (h : ∀ v' w', w'.ownsRow base 25 8 v' (n + m) (nds (xs ++ ys)) → w.grownBy w' v.ownBlock → (v'.ownBlock = v.ownBlock ∨ v'.ownBlock = some w.heap.size) → wpList Tryd.prog ops Q rest (a.put o.dst v') w') :
    wpList Tryd.prog ops Q (o :: rest) a w := by
  obtain ⟨i0, hi0, hz0, hz1, hz2⟩ := info_parts node_info
  refine wpList_append_rds w hgd s x _ ho base 25 i0 _ 8 96 Tryd.underlying23 hi0 hz0 hz1 hz2 rfl (by omega) v n _ hs hown B A m c _ hx hr (nds_one _) (by unfold maxLen; omega) (by omega) hbase ?_
  intro v' w' h1 h2 h3
  exact h v' w' (by rw [nds_append]; exact h1) h2 h3
theorem KidsAt.append {w : World} {B : Nat} : ∀ {a : List Tr} {x : List ND} {b : List Tr} {y : List ND}, KidsAt w B a x → KidsAt w B b y → KidsAt w B (a ++ b) (x ++ y)
  | _, _, _, _, .nil, h => h
  | _, _, _, _, .cons h0 hs, h => .cons h0 (hs.append h)
theorem KidsAt.map {w w' : World} {B B' : Nat} (f : ∀ {size n : Nat} {A : Option Addr} {xs : List Value}, Rds w B size A n xs → Rds w' B' size A n xs) : ∀ {a : List Tr} {x : List ND}, KidsAt w B a x → KidsAt w' B' a x
  | _, _, .nil => .nil
  | _, _, .cons h0 hs => .cons (NodeAt.map f _ _ h0) (hs.map f)
theorem KidsAt.keepB {w w' : World} {B C : Nat} {a : List Tr} {x : List ND} (h : KidsAt w B a x) (hb : Below C w w') (hC : B ≤ C) : KidsAt w' B a x := h.map fun r => r.below hb hC
theorem NodeAt.keepB {w w' : World} {B C : Nat} {t : Tr} {d : ND} (h : NodeAt w B t d) (hb : Below C w w') (hC : B ≤ C) : NodeAt w' B t d := NodeAt.map (fun r => r.below hb hC) _ _ h
theorem own_nds_len {w : World} {base n : Nat} {e : TypeId} {v : Value} {l : List ND} (h : w.ownsRow base e 8 v n (nds l)) : n = l.length := by have := h.1; rw [nds_length] at this; omega
/-- 'It hands back a new row of nodes, which are these trees.' -/
def OwnNodes (B : Nat) (ts : List Tr) (w : World) (e : Ending) (w' : World) : Prop :=
  ∃ A n c ds, e = .returned (.slice A n c) ∧ w'.ownsRow w.heap.size 25 8 (.slice A n c) n (nds ds) ∧ KidsAt w' B ts ds ∧ Below w.heap.size w w'
theorem flatL_take (ks : List Tr) (k : Nat) (h : k < ks.length) : flatL (ks.take (k + 1)) = flatL (ks.take k) ++ flatT ks[k] := by
  rw [List.take_succ_eq_append_getElem h, flatL_append]; simp [flatL]
theorem sizeL_take (ks : List Tr) (k : Nat) : sizeL (ks.take k) ≤ sizeL ks := by
  have h : sizeL (ks.take k ++ ks.drop k) = sizeL ks := by rw [List.take_append_drop]
  rw [sizeL_append] at h; omega
theorem flatL_len (ks : List Tr) : (flatL ks).length = sizeL ks := by
  induction ks with
  | nil => rfl
  | cons t ks ih => rw [flatL, List.length_append, flatT_len, ih]; rfl
set_option maxRecDepth 100000 in
set_option maxHeartbeats 2000000 in
theorem flat25 (t : Tr) : ∀ (d : ND) (w : World) (B : Nat), B ≤ w.heap.size → NodeAt w B t d → sizeT t ≤ 1000 → Calls Tryd.prog 17 #[d.agg] w (OwnNodes B (flatT t) w) := by
  refine tree_ind (P := fun t => ∀ (d : ND) (w : World) (B : Nat), B ≤ w.heap.size → NodeAt w B t d → sizeT t ≤ 1000 → Calls Tryd.prog 17 #[d.agg] w (OwnNodes B (flatT t) w)) (fun t ih => ?_) t
  intro d w B hBw hn hsz
  have HT := Lib.hid hn
  obtain ⟨ds, hn⟩ := hn.of
  have HN := Lib.hid hn
  have HK := Lib.hid hn.knum
  have IH := Lib.hid ih
  have HEQ := Lib.hid (flatT_eq t)
  have HSZ := Lib.hid (show sizeL t.kids + 1 ≤ 1000 by have := sizeT_eq t; omega)
  have HB0 := Lib.hid (ND.box_below w d)
  have HX0 := Lib.hid (BoxN.new w d)
  have HBS := Lib.hid (ND.box_size w d)
  have hkc := hn.kc1
  have hkm := hn.kc2
  unfold maxLen at hkm
  have HNEW := Lib.hid (show ((d.box w).alloc (.cells #[.int .i64 d.kind, .slice d.sA d.sn d.sc, .slice d.kA d.kn d.kc, .int .i64 d.num, .int .i64 d.least, .int .i64 d.most, .int .i64 d.way, .bool d.fold] 25)).ownsRow (d.box w).heap.size 25 8 (.slice (some ⟨(d.box w).heap.size, 0, none⟩) 1 1) 1 (nds [d]) from own_new (d.box w) _ 25 8 1 #[.int .i64 d.kind, .slice d.sA d.sn d.sc, .slice d.kA d.kn d.kc, .int .i64 d.num, .int .i64 d.least, .int .i64 d.most, .int .i64 d.way, .bool d.fold] (Nat.le_refl _) rfl (by decide))
  have HK1 := Lib.hid (show KidsAt (d.box w) B [t] [d] from .cons (HT.out.keepB (ND.box_below w d) hBw) .nil)
  clear hn ih
  obtain ⟨dk, dsA, dsn, dsc, dkA, dkn, dkc, dnum, dleast, dmost, dway, dfold⟩ := d
  unfold ND.agg
  simp only at hkc hkm HK
  unfold ND.box at HB0 HX0 HBS HNEW HK1
  simp only at HB0 HX0 HBS HNEW HK1
  go_enter Tryd.func17, Tryd.ntmps17
  go_wp2_with fail
  generalize hW0 : w.alloc (.cells #[.int .i64 dk, .slice dsA dsn dsc, .slice dkA dkn dkc, .int .i64 dnum, .int .i64 dleast, .int .i64 dmost, .int .i64 dway, .bool dfold] 25) = W0 at *
  clear hW0
  go_loopw [3, 4] (fun v i wr => ∃ (k m : Nat) (es : List ND), k ≤ dkn ∧ i = .int .i64 k ∧ Hid (wr.ownsRow W0.heap.size 25 8 v m (nds es)) ∧ Hid (KidsAt wr B (t :: flatL (t.kids.take k)) es) ∧ Hid (Below W0.heap.size W0 wr)) (fun _ i _ => dkn - (intOf i).toNat)
  case atStart => exact ⟨0, 1, [⟨dk, dsA, dsn, dsc, dkA, dkn, dkc, dnum, dleast, dmost, dway, dfold⟩], Nat.zero_le _, rfl, Lib.hid (by rw [← HBS.out]; exact HNEW.out), Lib.hid (by rw [List.take_zero]; exact HK1.out.keepB ((Below.refl _ _).alloc (Nat.le_refl _) _) (Nat.le_trans hBw HB0.out.size)), Lib.hid ((Below.refl _ _).alloc (Nat.le_refl _) _)⟩
  case round =>
    obtain ⟨k, m, es, hk, rfl, HO, HE, HB⟩ := hrel
    have hsz0 := HB0.out.size
    have HBW := Lib.hid (HB0.out.trans (HB.out.mono hsz0))
    have HLE := Lib.hid (show m = 1 + sizeL (t.kids.take k) by have h1 := own_nds_len HO.out; have h2 := HE.out.len; rw [List.length_cons, flatL_len] at h2; omega)
    have HLT := Lib.hid (sizeL_take t.kids k)
    obtain ⟨x0, x1, x2, x3, x4, x5, x6, x7, x8⟩ := HX0.out.next HB.out
    by_cases hlt : k < dkn
    · obtain ⟨b1, off1, hl1, hA, hb1, c0, c1, c2, c3, c4, c5, c6, c7⟩ := (HN.out.kids.below HBW.out hBw).node_at hlt
      have hkl : k < t.kids.length := by rw [HK.out.1]; exact hlt
      have HKID := Lib.hid (HN.out.each.at k hkl hl1 |>.keepB HBW.out hBw)
      have HD := Lib.hid (flatL_take t.kids k hkl)
      have HDS := Lib.hid (sizeL_take t.kids (k + 1))
      have HDE := Lib.hid (show sizeL (t.kids.take (k + 1)) = sizeL (t.kids.take k) + sizeT t.kids[k] by rw [← flatL_len, flatL_take t.kids k hkl, List.length_append, flatL_len, flatT_len])
      have HIH := Lib.hid (IH.out _ (List.getElem_mem hkl))
      obtain ⟨kid, hkid⟩ : ∃ x, x = t.kids[k] := ⟨_, rfl⟩
      rw [← hkid] at HKID HD HIH HDE
      clear hkid
      obtain ⟨e, he⟩ : ∃ x, x = ds[k] := ⟨_, rfl⟩
      rw [← he] at c0 c1 c2 c3 c4 c5 c6 c7 HKID
      clear he
      simp only at hA
      have HAA := Lib.hid hA
      subst hA
      have k2 : (k : Int) < (dkn : Int) := by omega
      have hsz1 := HB.out.size
      have HC := Lib.hid (HIH.out e wr B (by omega) HKID.out (by have := HDE.out; have := HDS.out; have := HSZ.out; omega))
      unfold ND.agg at HC
      go_wp2_with fail
      refine HC.out.mono ?_
      rintro en w2 ⟨A2, n2, c2', es2, rfl, hown2, hk2, hb2⟩
      have HO2 := Lib.hid (own_below HO.out hb2 (Nat.le_refl _))
      have HR2 := Lib.hid (Rds.of_own hown2)
      have HN2 := Lib.hid (show n2 = sizeT kid by have h1 := own_nds_len hown2; have h2 := hk2.len; rw [flatT_len] at h2; omega)
      have HB2 := Lib.hid (HB.out.trans (hb2.mono hsz1))
      have HE2 := Lib.hid ((HE.out.keepB hb2 (by omega)).append hk2)
      clear hown2 hk2
      have hsz2 := hb2.size
      clear hb2
      have hmn : m + n2 ≤ 1000000000 := by have := HLE.out; have := HN2.out; have := HDE.out; have := HDS.out; have := HSZ.out; omega
      go_wp2_with (at_builtin; refine app_nodes _ _ HO2.out HR2.out hmn (by omega) rfl rfl rfl rfl ?_; intro v' w3 h1 h2 _)
      have HB3 := Lib.hid (grown_own (Below.refl B w2) HO2.out h2 (by omega) (by omega))
      have HB4 := Lib.hid (grown_own HB2.out HO2.out h2 (Nat.le_refl _) (by omega))
      have HO3 := Lib.hid h1
      clear h1 h2
      go_wp2
      go_roundw
      case rel => exact ⟨k + 1, m + n2, es ++ es2, by omega, by go_num, HO3, Lib.hid (by rw [HD.out]; exact HE2.out.keepB HB3.out (Nat.le_refl _)), HB4⟩
      case measure => simp [intOf]; omega
    · obtain rfl : k = dkn := by omega
      have HZ := Lib.hid (show t.kids.take k = t.kids from List.take_of_length_le (by rw [HK.out.1]; exact Nat.le_refl _))
      go_wp2
      go_ret
      obtain ⟨A, c, hv, _⟩ := own_slice HO.out
      exact ⟨A, m, c, es, congrArg Ending.returned hv, by rw [← hv]; exact own_mono HO.out hsz0, by rw [HEQ.out]; have h := HE.out; rwa [HZ.out] at h, HBW.out⟩
end Go.Proofs.YtbekjfoefjnidaaDoor
