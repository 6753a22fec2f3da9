/- TooGreat of the reference: walked. -/
import Derived.Test.YtbekjfoefjnidaaDoorFsQ
import Derived.Test.YtbekjfoefjnidaaDoorFsL
namespace Go.Proofs.YtbekjfoefjnidaaDoor
open Go.RowKit
set_option linter.unusedVariables false
theorem own_kept {w w' : World} {base' m size' : Nat} {e' : TypeId} {v B : Value} {ys : List Value} (hB : w.ownsRow base' e' size' B m ys) (hg : w.grownBy w' v.ownBlock) (hne : ∀ g, v.ownBlock = some g → B.ownBlock ≠ some g) : w'.ownsRow base' e' size' B m ys := by
  refine hB.kept hg ?_
  cases hb : B.ownBlock with
  | none => exact .inl rfl
  | some g => exact .inr (fun h => hne g h.symm hb)
theorem own_ne_type {w : World} {b1 b2 s1 s2 n1 n2 : Nat} {e1 e2 : TypeId} {v1 v2 : Value} {xs ys : List Value} (h : w.ownsRow b1 e1 s1 v1 n1 xs) (k : w.ownsRow b2 e2 s2 v2 n2 ys) (hne : e1 ≠ e2) : ∀ g, v1.ownBlock = some g → v2.ownBlock ≠ some g := by
  intro g h1 h2
  rcases h.2 with ⟨rfl, _⟩ | ⟨g1, cap, cur, rfl, _, hh, _⟩
  · simp [Value.ownBlock] at h1
  · rcases k.2 with ⟨rfl, _⟩ | ⟨g2, cap2, cur2, rfl, _, kk, _⟩
    · simp [Value.ownBlock] at h2
    · simp [Value.ownBlock] at h1 h2
      subst h1 h2
      rw [hh] at kk
      injection kk with kk
      injection kk with _ kk
      exact hne kk
theorem own_cut {w : World} {base e size n c : Nat} {A : Option Addr} {xs : List Value} (h : w.ownsRow base e size (.slice A n c) n xs) {k : Nat} (hk : k ≤ n) (hn : 0 < n) : w.ownsRow base e size (.slice A k c) k (xs.take (k * size)) := by
  refine ⟨?_, ?_⟩
  · rw [List.length_take, h.1]; exact Nat.min_eq_left (Nat.mul_le_mul_right _ hk)
  · rcases h.2 with ⟨h1, h2⟩ | ⟨g, cap, cur, hv, hg, hh, hnc, hcm, hcs, htk⟩
    · omega
    · injection hv with h1 _ h3
      subst h1 h3
      exact .inr ⟨g, c, cur, rfl, hg, hh, by omega, hcm, hcs, by rw [← htk, List.take_take, Nat.min_eq_left (Nat.mul_le_mul_right _ hk)]⟩
/-- the stack -/
structure StkAt (w : World) (B base : Nat) (l : List (Tr × Int)) (v u : Value) (n : Nat) (es : List ND) : Prop where
  nodes : w.ownsRow base 25 8 v n (nds es)
  deeps : w.ownsRow base 3 1 u n (ints (l.map (·.2)))
  kids : KidsAt w B (l.map (·.1)) es
theorem StkAt.len {w : World} {B base : Nat} {l : List (Tr × Int)} {v u : Value} {n : Nat} {es : List ND} (h : StkAt w B base l v u n es) : l.length = n ∧ es.length = n := by
  have h1 := own_nds_len h.nodes
  have h2 := h.kids.len
  rw [List.length_map] at h2
  omega
theorem nds_take (l : List ND) (k : Nat) : (nds l).take (k * 8) = nds (l.take k) := by
  induction l generalizing k with
  | nil => simp [nds]
  | cons d l ih =>
    cases k with
    | zero => simp [nds]
    | succ k =>
      rw [nds, List.take_succ_cons, nds, ← ih k, List.take_append, show (k + 1) * 8 - d.vals.length = k * 8 by show (k + 1) * 8 - 8 = _; omega, List.take_of_length_le (by show 8 ≤ _; omega)]
theorem KidsAt.cut {w : World} {B : Nat} {a : List Tr} {x : List ND} (h : KidsAt w B a x) (k : Nat) : KidsAt w B (a.take k) (x.take k) :=
  KidsAt.of (by simp [h.len]) fun j h1 h2 => by
    rw [List.getElem_take, List.getElem_take]
    exact h.at j (by simp at h1; omega) (by simp at h2; omega)
theorem StkAt.pop {w : World} {B base n c c' : Nat} {l : List (Tr × Int)} {x : Tr × Int} {A A' : Option Addr} {es : List ND} (h : StkAt w B base (l ++ [x]) (.slice A (n + 1) c) (.slice A' (n + 1) c') (n + 1) es) :
    StkAt w B base l (.slice A n c) (.slice A' n c') n (es.take n) := by
  have hl := h.len.1
  simp at hl
  have h1 := own_cut h.nodes (k := n) (by omega) (by omega)
  have h2 := own_cut h.deeps (k := n) (by omega) (by omega)
  have h3 := h.kids.cut n
  rw [nds_take] at h1
  rw [List.map_append, List.take_append_of_le_length (by simp [hl]), List.take_of_length_le (by simp [hl])] at h3
  refine ⟨h1, ?_, h3⟩
  rw [Nat.mul_one, List.map_append, ints_append, List.take_append_of_le_length (by simp [ints, hl]), List.take_of_length_le (by simp [ints, hl])] at h2
  exact h2
theorem BoxN.grown {w w' : World} {b : Nat} {d : ND} {row : Option Nat} (h : BoxN w b d) (hg : w.grownBy w' row) (hne : row ≠ some b) : BoxN w' b d := by
  obtain ⟨h0, h1, h2, h3, h4, h5, h6, h7, h8⟩ := h
  have hc := fun j => World.cell?_of_block (a := ⟨b, j, none⟩) (hg.block b h0 (fun e => hne e.symm))
  exact ⟨Nat.lt_of_lt_of_le h0 hg.size, by rw [hc]; exact h1, by rw [hc]; exact h2, by rw [hc]; exact h3, by rw [hc]; exact h4, by rw [hc]; exact h5, by rw [hc]; exact h6, by rw [hc]; exact h7, by rw [hc]; exact h8⟩
theorem KidsAt.last {w : World} {B : Nat} {l : List Tr} {t : Tr} {x : List ND} (h : KidsAt w B (l ++ [t]) x) (hx : l.length < x.length) : NodeAt w B t (x[l.length]) := by
  have := h.at l.length (by simp) hx
  simpa using this
def startW (w : World) (d : ND) : World := ((d.box w).alloc (.cells #[.int .i64 d.kind, .slice d.sA d.sn d.sc, .slice d.kA d.kn d.kc, .int .i64 d.num, .int .i64 d.least, .int .i64 d.most, .int .i64 d.way, .bool d.fold] 25)).alloc (.cells #[.int .i64 0] 3)
theorem startW_below (w : World) (d : ND) : Below w.heap.size w (startW w d) := by unfold startW ND.box; go_grown
theorem startW_stk (w : World) (t : Tr) (d : ND) (hn : NodeAt w w.heap.size t d) : StkAt (startW w d) w.heap.size (w.heap.size + 1) [(t, 0)] (.slice (some ⟨w.heap.size + 1, 0, none⟩) 1 1) (.slice (some ⟨w.heap.size + 1 + 1, 0, none⟩) 1 1) 1 [d] := by
  have hs := ND.box_size w d
  have h1 := own_new (d.box w) (w.heap.size + 1) 25 8 1 #[.int .i64 d.kind, .slice d.sA d.sn d.sc, .slice d.kA d.kn d.kc, .int .i64 d.num, .int .i64 d.least, .int .i64 d.most, .int .i64 d.way, .bool d.fold] (by omega) rfl (by decide)
  rw [hs] at h1
  have hs2 : ((d.box w).alloc (.cells #[.int .i64 d.kind, .slice d.sA d.sn d.sc, .slice d.kA d.kn d.kc, .int .i64 d.num, .int .i64 d.least, .int .i64 d.most, .int .i64 d.way, .bool d.fold] 25)).heap.size = w.heap.size + 1 + 1 := by simp [hs]
  have h2 := own_new ((d.box w).alloc (.cells #[.int .i64 d.kind, .slice d.sA d.sn d.sc, .slice d.kA d.kn d.kc, .int .i64 d.num, .int .i64 d.least, .int .i64 d.most, .int .i64 d.way, .bool d.fold] 25)) (w.heap.size + 1) 3 1 1 #[.int .i64 0] (by omega) rfl (by decide)
  rw [hs2] at h2
  exact ⟨h1.alloc _, h2, .cons (hn.keepB (startW_below w d) (Nat.le_refl _)) .nil⟩
/-- no node has more kids than any machine holds -/
def Small (t : Tr) : Prop := ∀ y ∈ flatT t, y.kids.length ≤ 2199023255552
theorem Small.here {t : Tr} (h : Small t) : t.kids.length ≤ 2199023255552 := h t (by rw [flatT_eq]; simp)
theorem Small.kid {t k : Tr} (h : Small t) (hk : k ∈ t.kids) : Small k := fun y hy => h y (flat_kid hk hy)
theorem StkAt.next {w w' : World} {B base n C : Nat} {l : List (Tr × Int)} {v u : Value} {es : List ND} (h : StkAt w B base l v u n es) (hb : Below C w w') (hB : B ≤ C) (hC : w.heap.size ≤ C) : StkAt w' B base l v u n es :=
  ⟨own_below h.nodes hb hC, own_below h.deeps hb hC, h.kids.keepB hb hB⟩
theorem map_take_snoc {α β : Type} (f : α → β) (l : List α) (i : Nat) (h : i < l.length) : (l.take (i + 1)).map f = (l.take i).map f ++ [f l[i]] := by rw [take_snoc' l i h, List.map_append]; rfl
theorem Below.two {B : Nat} {w a b : World} (ha : Below B w a) (hb : Below B w b) : ∀ p : Addr, p.block < B → b.cell? p = a.cell? p := fun p hp => (hb.cell hp).trans (ha.cell hp).symm
theorem StkAt.push {w w' : World} {B base n : Nat} {l : List (Tr × Int)} {es : List ND} {k : Tr} {e : ND} {dd : Int} {v u v' u' : Value} (h : StkAt w B base l v u n es) (hb : Below B w w') (hk : NodeAt w B k e)
    (h1 : w'.ownsRow base 25 8 v' (n + 1) (nds (es ++ [e]))) (h2 : w'.ownsRow base 3 1 u' (n + 1) (ints (l.map (·.2) ++ [dd]))) : StkAt w' B base (l ++ [(k, dd)]) v' u' (n + 1) (es ++ [e]) :=
  ⟨h1, by rw [List.map_append]; exact h2, by rw [List.map_append]; exact (h.kids.keepB hb (Nat.le_refl _)).append (.cons (hk.keepB hb (Nat.le_refl _)) .nil)⟩
theorem BoxN.drewN {w : World} {b : Nat} {d : ND} (h : BoxN w b d) (n : Nat) : BoxN (w.drew.drewN n) b d := h
theorem al_size (w : World) (o : Obj) : (w.alloc o).heap.size = w.heap.size + 1 := by simp
theorem own_ne_of {w : World} {o : Obj} {bx : Nat} {v v' : Value} (h3 : v'.ownBlock = v.ownBlock ∨ v'.ownBlock = some (w.alloc o).heap.size) (hv : v.ownBlock ≠ some bx) (hb : bx < w.heap.size) : v'.ownBlock ≠ some bx := by
  rcases h3 with h | h
  · rw [h]; exact hv
  · rw [h]; intro h4; injection h4 with h4; rw [al_size] at h4; omega
theorem kids_push (l : List (Tr × Int)) (ks : List Tr) (k : Nat) (h : k < ks.length) (dd : Int) : l ++ (ks.take (k + 1)).map (fun x => (x, dd)) = l ++ (ks.take k).map (fun x => (x, dd)) ++ [(ks[k], dd)] := by
  rw [map_take_snoc _ _ _ h, List.append_assoc]
set_option maxRecDepth 100000 in
set_option maxHeartbeats 4000000 in
theorem tooGreat21 (t : Tr) (d : ND) (w : World) (hn : NodeAt w w.heap.size t d) (hsm : Small t) : Calls Tryd.prog 12 #[d.agg] w fun e w' => e = .returned (.bool (tooG t)) ∧ Below w.heap.size w w' := by
  have HSM := Lib.hid hsm
  have HSZ0 := Lib.hid (show w.heap.size + 1 ≤ (startW w d).heap.size by unfold startW ND.box; simp)
  have HB0 := Lib.hid (startW_below w d)
  have HS0 := Lib.hid (startW_stk w t d hn)
  clear hn hsm
  obtain ⟨dk, dsA, dsn, dsc, dkA, dkn, dkc, dnum, dleast, dmost, dway, dfold⟩ := d
  unfold ND.agg
  unfold startW ND.box at HB0 HS0 HSZ0
  simp only at HB0 HS0 HSZ0 ⊢
  go_enter Tryd.func12, Tryd.ntmps12
  go_wp2_with fail
  generalize hW0 : ((w.alloc (.cells #[.int .i64 dk, .slice dsA dsn dsc, .slice dkA dkn dkc, .int .i64 dnum, .int .i64 dleast, .int .i64 dmost, .int .i64 dway, .bool dfold] 25)).alloc (.cells #[.int .i64 dk, .slice dsA dsn dsc, .slice dkA dkn dkc, .int .i64 dnum, .int .i64 dleast, .int .i64 dmost, .int .i64 dway, .bool dfold] 25)).alloc (.cells #[.int .i64 0] 3) = W0 at *
  clear hW0
  go_loopw [3, 4, 5] (fun v u i wr => ∃ (n m : Nat) (l : List (Tr × Int)) (es : List ND), i = .int .i64 m ∧ m ≤ 1000 ∧ n ≤ 1000 ∧ Hid (StkAt wr w.heap.size (w.heap.size + 1) l v u n es) ∧ Hid (TgSt t m l) ∧ Hid (∀ x ∈ l, Small x.1 ∧ 0 ≤ x.2) ∧ Hid (w.heap.size + 1 ≤ wr.heap.size) ∧ Hid (Below w.heap.size w wr)) (fun _ _ i _ => 1000 - (intOf i).toNat)
  case atStart => exact ⟨1, 0, [(t, 0)], _, rfl, by decide, by decide, HS0, Lib.hid (TgSt.start t), Lib.hid (by intro x hx; rw [List.mem_singleton] at hx; subst hx; exact ⟨HSM.out, Int.le_refl _⟩), HSZ0, HB0⟩
  case round =>
    obtain ⟨n, m, l, es, rfl, hm, hn, HS, HT, HML, HWZ, HB⟩ := hrel
    obtain ⟨A, c, rfl, hc1, hc2⟩ := own_slice HS.out.nodes
    obtain ⟨A', c', rfl, hc1', hc2'⟩ := own_slice HS.out.deeps
    unfold maxLen at hc2 hc2'
    by_cases h0 : n = 0
    · subst h0
      have HL := Lib.hid (show l = [] from List.eq_nil_of_length_eq_zero HS.out.len.1)
      have HR := Lib.hid (show tooG t = false by have h := HT.out; rw [HL.out] at h; exact h.done.1)
      go_wp2
      go_ret
      rw [HR.out]
      exact ⟨rfl, HB.out⟩
    · obtain ⟨n, rfl⟩ : ∃ k, n = k + 1 := ⟨n - 1, by omega⟩
      clear h0
      obtain ⟨l, x, rfl⟩ : ∃ i x, l = i ++ [x] := by
        rcases List.eq_nil_or_concat l with h | ⟨i, x, h⟩
        · have := HS.out.len.1; rw [h] at this; simp at this
        · exact ⟨i, x, by rw [h, List.concat_eq_append]⟩
      obtain ⟨x, dd⟩ := x
      have hll : l.length = n := by have := HS.out.len.1; simpa using this
      obtain ⟨b1, off1, hl1, hA, hb1, c0, c1, c2, c3, c4, c5, c6, c7⟩ := (Rds.of_own HS.out.nodes).node_at (show n < n + 1 by omega)
      obtain ⟨b2, off2, hl2, hA', hb2, q0⟩ := (Rds.of_own HS.out.deeps).int_at (show n < n + 1 by omega)
      have hq : ((l ++ [(x, dd)]).map (·.2))[n] = dd := by subst hll; simp
      rw [hq] at q0
      have HX := Lib.hid (show NodeAt wr w.heap.size x es[n] by have h := HS.out.kids; rw [List.map_append] at h; have := h.last (by simp [hll]; exact hl1); simpa [hll] using this)
      obtain ⟨e, he⟩ : ∃ x, x = es[n] := ⟨_, rfl⟩
      rw [← he] at c0 c1 c2 c3 c4 c5 c6 c7 HX
      clear he hq hl1 hl2
      have HLL := Lib.hid hll
      have HAA := Lib.hid hA
      have HAA' := Lib.hid hA'
      clear hll
      subst hA hA'
      have w1 : IntKind.i64.wrap ((↑(n + 1) : Int) - 1) = (n : Int) := by rw [IntWalk.i64_in _ (by omega)]; omega
      have w2 : (0 : Int) ≤ (↑(n + 1) : Int) - 1 := by omega
      have w3 : (↑(n + 1) : Int) - 1 < (↑(n + 1) : Int) := by omega
      go_upto_region 4 with (fail)
      go_region
      go_wp2_with fail
      have w4 : IntKind.i64.wrap ((↑n : Int) + 1 - 1) = (n : Int) := by rw [IntWalk.i64_in _ (by omega)]; omega
      go_quiet (fail)
      have hsz := HB.out.size
      have HBX := Lib.hid (show Below wr.heap.size wr (((e.box wr).drew).drewN nq) from below_drewN (ND.box_below wr e).drew nq)
      have HBW := Lib.hid (HB.out.trans (HBX.out.mono hsz))
      have HS1 := Lib.hid (HS.out.next HBX.out hsz (Nat.le_refl _)).pop
      have HXB := Lib.hid ((BoxN.new wr e).drewN nq)
      have HNB := Lib.hid (show (Value.slice (some ⟨b1, off1, none⟩) n c).ownBlock ≠ some wr.heap.size by simp only [Value.ownBlock]; intro h; injection h with h; omega)
      have HNB' := Lib.hid (show (Value.slice (some ⟨b2, off2, none⟩) n c').ownBlock ≠ some wr.heap.size by simp only [Value.ownBlock]; intro h; injection h with h; omega)
      have HW1 := Lib.hid (show w.heap.size + 1 ≤ (((e.box wr).drew).drewN nq).heap.size from Nat.le_trans HWZ.out HBX.out.size)
      obtain ⟨dsx, hnx⟩ := HX.out.of
      have HNX := Lib.hid hnx
      have hkn := HNX.out.knum.1
      have hsk := (HML.out (x, dd) (by simp)).1.here
      have hd0 := (HML.out (x, dd) (by simp)).2
      simp only at hsk hd0
      rw [hkn] at hsk
      have HKN := Lib.hid hkn
      have hxc := hnx.kc1
      clear hnx hkn
      unfold ND.box at HBX HBW HS1 HXB HW1
      generalize hW1 : ((wr.alloc (.cells #[.int .i64 e.kind, .slice e.sA e.sn e.sc, .slice e.kA e.kn e.kc, .int .i64 e.num, .int .i64 e.least, .int .i64 e.most, .int .i64 e.way, .bool e.fold] 25)).drew.drewN nq) = W1 at *
      clear hW1 w1 w2 w3 w4
      have hll := HLL.out
      obtain ⟨x0, x1, x2, x3, x4, x5, x6, x7, x8⟩ := HXB.out
      by_cases hbig : 1000 < (m : Int) + 1 + (n : Int) + (e.kn : Int)
      · have HR := Lib.hid (show tooG t = true from HT.out.full (by have := HKN.out; omega))
        clear hll
        go_wp2
        go_ret
        rw [HR.out]
        exact ⟨rfl, HBW.out⟩
      · by_cases hd : 200 < dd
        · have HR := Lib.hid (show tooG t = true from HT.out.low hd)
          clear hll
          go_wp2
          go_ret
          rw [HR.out]
          exact ⟨rfl, HBW.out⟩
        · have HNT := Lib.hid (HT.out.next (by have := HKN.out; omega) (by omega))
          clear hll
          have hsl : m + 1 + n + e.kn ≤ 1000 := by omega
          clear hbig
          go_wp2_with fail
          obtain ⟨bx, hbx⟩ : ∃ b, b = wr.heap.size := ⟨_, rfl⟩
          rw [← hbx] at HXB HNB HNB'
          rw [← hbx]
          have HBX2 := Lib.hid hbx
          clear x0 x1 x2 x3 x4 x5 x6 x7 x8 c0 c1 c2 c3 c4 c5 c6 c7 q0
          clear hbx
          go_loopw [3, 4, 8] (fun v u i wx => ∃ (k n2 : Nat) (es2 : List ND), k ≤ e.kn ∧ i = .int .i64 k ∧ Hid (n2 = n + k) ∧ Hid (StkAt wx w.heap.size (w.heap.size + 1) (l ++ (x.kids.take k).map fun y => (y, dd + 1)) v u n2 es2) ∧ Hid (BoxN wx bx e) ∧ Hid (v.ownBlock ≠ some bx) ∧ Hid (u.ownBlock ≠ some bx) ∧ Hid (w.heap.size + 1 ≤ wx.heap.size) ∧ Hid (Below w.heap.size w wx)) (fun _ _ i _ => e.kn - (intOf i).toNat)
          case atStart => exact ⟨0, n, _, Nat.zero_le _, rfl, Lib.hid rfl, Lib.hid (by simpa using HS1.out), HXB, HNB, HNB', HW1, HBW⟩
          case round =>
            obtain ⟨k, n2, es2, hk, rfl, HN2, HS2, HXB2, HV, HU, HW2, HB2⟩ := hrel
            obtain ⟨x0, x1, x2, x3, x4, x5, x6, x7, x8⟩ := HXB2.out
            by_cases hlt : k < e.kn
            · obtain ⟨b3, off3, hl3, hA3, hb3, c0, c1, c2, c3, c4, c5, c6, c7⟩ := (HNX.out.kids.keep (Below.two HB.out HB2.out)).node_at hlt
              have hkl : k < x.kids.length := by rw [HKN.out]; exact hlt
              have HKID := Lib.hid (NodeAt.map (fun r => r.keep (Below.two HB.out HB2.out)) _ _ (HNX.out.each.at k hkl hl3))
              have HPU := Lib.hid (kids_push l x.kids k hkl (dd + 1))
              obtain ⟨kid, hkid⟩ : ∃ z, z = x.kids[k] := ⟨_, rfl⟩
              rw [← hkid] at HKID HPU
              clear hkid
              obtain ⟨e3, he⟩ : ∃ z, z = dsx[k] := ⟨_, rfl⟩
              rw [← he] at c0 c1 c2 c3 c4 c5 c6 c7 HKID
              clear he
              rw [hA3] at x3
              have HA3 := Lib.hid hA3
              clear hA3
              have k2 : (k : Int) < (e.kn : Int) := by omega
              have HN3 := Lib.hid (show n2 + 1 ≤ 1000000000 by have := HN2.out; omega)
              have hz2 := HW2.out
              have HO2 := Lib.hid (HS2.out.nodes.alloc (.cells #[.int .i64 e3.kind, .slice e3.sA e3.sn e3.sc, .slice e3.kA e3.kn e3.kc, .int .i64 e3.num, .int .i64 e3.least, .int .i64 e3.most, .int .i64 e3.way, .bool e3.fold] 25))
              have HD2 := Lib.hid (HS2.out.deeps.alloc (.cells #[.int .i64 e3.kind, .slice e3.sA e3.sn e3.sc, .slice e3.kA e3.kn e3.kc, .int .i64 e3.num, .int .i64 e3.least, .int .i64 e3.most, .int .i64 e3.way, .bool e3.fold] 25))
              have HB2' := Lib.hid (show Below w.heap.size wr (wr.alloc (.cells #[.int .i64 e3.kind, .slice e3.sA e3.sn e3.sc, .slice e3.kA e3.kn e3.kc, .int .i64 e3.num, .int .i64 e3.least, .int .i64 e3.most, .int .i64 e3.way, .bool e3.fold] 25)) from (Below.refl w.heap.size wr).alloc (by omega) _)
              have HX2' := Lib.hid (HXB2.out.next (show Below wr.heap.size wr (wr.alloc (.cells #[.int .i64 e3.kind, .slice e3.sA e3.sn e3.sc, .slice e3.kA e3.kn e3.kc, .int .i64 e3.num, .int .i64 e3.least, .int .i64 e3.most, .int .i64 e3.way, .bool e3.fold] 25)) from (Below.refl _ _).alloc (Nat.le_refl _) _))
              have hz2' : w.heap.size + 1 ≤ (wr.alloc (.cells #[.int .i64 e3.kind, .slice e3.sA e3.sn e3.sc, .slice e3.kA e3.kn e3.kc, .int .i64 e3.num, .int .i64 e3.least, .int .i64 e3.most, .int .i64 e3.way, .bool e3.fold] 25)).heap.size := by rw [al_size]; omega
              have HR2 := Lib.hid (Rds.new wr 8 1 #[.int .i64 e3.kind, .slice e3.sA e3.sn e3.sc, .slice e3.kA e3.kn e3.kc, .int .i64 e3.num, .int .i64 e3.least, .int .i64 e3.most, .int .i64 e3.way, .bool e3.fold] 25 (nds [e3]) rfl rfl)
              go_wp2_with (first
                | (at_builtin; refine app_nodes (c := 1) (.tmp 59) (.tmp 65) HO2.out HR2.out HN3.out hz2' rfl rfl rfl rfl ?_; intro v' w3 h1 h2 h3; have HO3 := Lib.hid h1; have HD3 := Lib.hid (own_kept HD2.out h2 (own_ne_type HO2.out HD2.out (by decide))); have HB3 := Lib.hid (grown_own HB2'.out HO2.out h2 (by omega) hz2'); have HX3 := Lib.hid (HX2'.out.grown h2 HV.out); have hz3 := h2.size; have HV3 := Lib.hid (own_ne_of h3 HV.out HXB2.out.1); clear h1 h2 h3 HO2 HD2 HB2' HX2' HR2 x0 x1 x2 x3 x4 x5 x6 x7 x8; have HO4 := Lib.hid (HO3.out.alloc (.cells #[.int .i64 (dd + 1)] 3)); have HD4 := Lib.hid (HD3.out.alloc (.cells #[.int .i64 (dd + 1)] 3)); have HB4 := Lib.hid (show Below w.heap.size wr (w3.alloc (.cells #[.int .i64 (dd + 1)] 3)) from HB3.out.alloc (by omega) _); have HX4 := Lib.hid (HX3.out.next (show Below w3.heap.size w3 (w3.alloc (.cells #[.int .i64 (dd + 1)] 3)) from (Below.refl _ _).alloc (Nat.le_refl _) _)); have hz4 : w.heap.size + 1 ≤ (w3.alloc (.cells #[.int .i64 (dd + 1)] 3)).heap.size := (by rw [al_size]; omega); have HR4 := Lib.hid (Rds.new w3 1 1 #[.int .i64 (dd + 1)] 3 (ints [dd + 1]) rfl rfl))
                | (at_builtin; refine app_ints (c := 1) (.tmp 67) (.tmp 70) HD4.out HR4.out HN3.out hz4 rfl rfl rfl rfl ?_; intro u' w5 h1 h2 h3; have HD5 := Lib.hid h1; have HO5 := Lib.hid (own_kept HO4.out h2 (own_ne_type HD4.out HO4.out (by decide))); have HB5 := Lib.hid (grown_own HB4.out HD4.out h2 (by omega) hz4); have HX5 := Lib.hid (HX4.out.grown h2 HU.out); have hz5 := h2.size; have HU5 := Lib.hid (own_ne_of h3 HU.out HX3.out.1); clear h1 h2 h3 HO4 HD4 HB4 HX4 HR4))
              go_roundw
              case rel => exact ⟨k + 1, n2 + 1, es2 ++ [e3], by omega, by go_num, Lib.hid (by have := HN2.out; omega), Lib.hid (by rw [HPU.out]; exact HS2.out.push HB5.out HKID.out HO5.out HD5.out), HX5, HV3, HU5, Lib.hid (by omega), Lib.hid (HB2.out.trans HB5.out)⟩
              case measure => simp [intOf]; omega
            · obtain rfl : k = e.kn := by omega
              have HZ := Lib.hid (show x.kids.take e.kn = x.kids from List.take_of_length_le (by rw [HKN.out]; exact Nat.le_refl _))
              have hn2 := HN2.out
              go_wp2
              go_roundw
              case rel => exact ⟨n2, m + 1, l ++ x.kids.map (fun y => (y, dd + 1)), es2, by go_num, by omega, by omega, Lib.hid (by have h := HS2.out; rw [HZ.out] at h; exact h), HNT, Lib.hid (by
                intro y hy
                rcases List.mem_append.1 hy with h | h
                · exact HML.out y (by simp [h])
                · obtain ⟨z, hz, rfl⟩ := List.mem_map.1 h
                  exact ⟨(HML.out (x, dd) (by simp)).1.kid hz, by simp only; omega⟩), HW2, HB2⟩
              case measure => simp [intOf]; omega
end Go.Proofs.YtbekjfoefjnidaaDoor
