/-
  ShowNode of the reference, what has kids: walked. ShowNode of the reference, what is repeated: walked. ShowNode of the reference, groups: walked. ShowShows: walked. The tables that the row lists are those that show reads.
-/
import Derived.Test.YtbekjfoefjnidaaDoorShG4
import Derived.Test.YtbekjfoefjnidaaDoorShG3
import Derived.Deep.DeepCutAuto
import Derived.Deep.QuietTactic
import Derived.BigQuiet
import Derived.Lib.QuietBelow
import Derived.Test.YtbekjfoefjnidaaDoorRows
import Derived.Lib.LaidTab
import Derived.Stop.LaidErr
namespace Go.Proofs.YtbekjfoefjnidaaDoor
open Go.RowKit
set_option linter.unusedVariables false
theorem kid_call (ns : List (ByteArray × Int)) (t : Tr) (ih : ∀ k ∈ t.kids, Law10 ns k) (hlen : ∀ k ∈ t.kids, (showT (nmOf ns) k).length ≤ 9000000) (w W wq : World) (d : ND) (ds : List ND) (nA : Option Addr) (nn nc : Nat)
    (hd : NodeOf w w.heap.size t d ds) (hBW : Below w.heap.size w W) (hb : Below W.heap.size W wq) (hx : BoxN W w.heap.size d) (n0 : W.cell? ⟨w.heap.size + 1, 0, none⟩ = some (.slice nA nn nc)) (hN : NamesK W nA nn nc ns) (hws : w.heap.size + 1 < W.heap.size)
    (k : Nat) (hk : k < d.kn) (hk1 : k < t.kids.length) (wrap : Bool) :
    Calls Tryd.prog 23 #[.int .i64 k, .bool wrap, .pointer (some ⟨w.heap.size, 0, none⟩), .pointer (some ⟨w.heap.size + 1, 0, none⟩)] wq (Says10 (wrapT wrap (showT (nmOf ns) t.kids[k])) wq) := by
  have hk2 : k < ds.length := by have := hd.knum.2; omega
  have hBQ : Below w.heap.size w wq := below_next hBW hb
  obtain ⟨kb, ko, hl, hA, hkb, c0, c1, c2, c3, c4, c5, c6, c7⟩ := (hd.kids.below hBQ (Nat.le_refl _)).node_at hk
  have hnk : NodeAt wq wq.heap.size t.kids[k] ds[k] := NodeAt.map (fun r => (r.below hBQ (Nat.le_refl _)).more hBQ.size) _ _ (hd.each.at k hk1 hk2)
  have hxq := hx.next hb
  have y2 := hxq.2.2.2.1
  rw [hA] at y2
  have hkm := hd.kc2
  have hkc := hd.kc1
  unfold maxLen at hkm
  exact kid23 ns t.kids[k] (ih _ (List.getElem_mem hk1)) (hlen _ (List.getElem_mem hk1)) ds[k] k w.heap.size (w.heap.size + 1) kb ko d.kn d.kc wrap nA nn nc wq hk (by omega) hnk (hN.next hb) y2 (by rw [hb.cell (p := ⟨w.heap.size + 1, 0, none⟩) hws]; exact n0) c0 c1 c2 c3 c4 c5 c6 c7
theorem app_ba (a b : List UInt8) : (⟨a.toArray⟩ : ByteArray) ++ ⟨b.toArray⟩ = ⟨(a ++ b).toArray⟩ := by
  apply ByteArray.ext
  simp
set_option maxRecDepth 100000 in
set_option maxHeartbeats 8000000 in
theorem ref_row (ns : List (ByteArray × Int)) (t : Tr) (ih : ∀ k ∈ t.kids, Law10 ns k) (hlen : ∀ k ∈ t.kids, (showT (nmOf ns) k).length ≤ 9000000) (hlt : (showT (nmOf ns) t).length ≤ 9000000) (hk : t.kind = 9) : Law10 ns t := by
  intro d nA nn nc w hn hN
  have hmf := fun_run
  have hbs := ND.box_size w d
  have HB0 := Lib.hid (ND.box_below w d)
  obtain ⟨W, hW⟩ : ∃ W, W = (d.box w).alloc (.cells #[.slice nA nn nc] 26) := ⟨_, rfl⟩
  have HA := Lib.hid (show Below (d.box w).heap.size (d.box w) W by rw [hW]; exact (Below.refl _ _).alloc (Nat.le_refl _) _)
  have HBW := Lib.hid (below_next HB0.out HA.out)
  have HXW := Lib.hid ((BoxN.new w d).next HA.out)
  have HNX := Lib.hid (hn.next HBW.out)
  have HNN := Lib.hid (hN.next HBW.out)
  have n0 : W.cell? ⟨w.heap.size + 1, 0, none⟩ = some (.slice nA nn nc) := by rw [hW, ← hbs, Lib.cell_of_heap (heap_alloc_new (d.box w) _)]; rfl
  have HWS := Lib.hid (show W.heap.size = w.heap.size + 2 by rw [hW]; simp [hbs])
  obtain ⟨ds, hd⟩ := hn.of
  have HD := Lib.hid hd
  have hkind := hd.kind
  have HT := Lib.hid (show showT (nmOf ns) t = rowT (showL (nmOf ns) t.kids) by rw [showT_eq]; unfold showK; rw [if_neg (by omega), if_neg (by omega), if_pos hk])
  rw [HT.out] at hlt ⊢
  obtain ⟨L, hL⟩ : ∃ L, L = showL (nmOf ns) t.kids := ⟨_, rfl⟩
  rw [← hL] at hlt HT ⊢
  have HL := Lib.hid hL
  have HLT := Lib.hid hlt
  have HK := Lib.hid hd.knum
  have hkc := hd.kc1
  have hkm := hd.kc2
  unfold maxLen at hkm
  have C23 := Lib.hid (fun (wq : World) (hb : Below W.heap.size W wq) (k : Nat) (hk : k < d.kn) (hk1 : k < t.kids.length) (wrap : Bool) => kid_call ns t ih hlen w W wq d ds nA nn nc hd HBW.out hb HXW.out n0 HNN.out (by have := HWS.out; omega) k hk hk1 wrap)
  unfold Says10 at C23
  have HLL := Lib.hid (show L.length = d.kn by rw [hL, showL_map, List.length_map]; exact hd.knum.1)
  rw [hk] at hkind
  clear hn hN hd hbs HB0 HA hk hL ih hlen hlt
  obtain ⟨dk, dsA, dsn, dsc, dkA, dkn, dkc, dnum, dleast, dmost, dway, dfold⟩ := d
  unfold ND.agg
  unfold ND.box at hW
  simp only at hW HXW HNX HD hkind HK hkc hkm C23 HLL ⊢
  obtain ⟨v0, v1, v2, v3, v4, v5, v6, v7, v8⟩ := HXW.out
  subst hkind
  go_enter Tryd.func10, Tryd.ntmps10
  go_upto_region 1 with (fail)
  rw [← hW]
  clear hW
  go_wp2_with fail
  go_loopw [6, 8] (fun s i wr => ∃ (k : Nat) (l : List UInt8), k ≤ dkn ∧ i = .int .i64 k ∧ s = .string ⟨l.toArray⟩ ∧ Hid (l = rowT (L.take k)) ∧ l.length ≤ 9000000 ∧ Hid (Below W.heap.size W wr)) (fun _ i _ => dkn - (intOf i).toNat)
  case atStart => exact ⟨0, [], Nat.zero_le _, rfl, rfl, Lib.hid rfl, by simp, Lib.hid (Below.refl _ _)⟩
  case round =>
    obtain ⟨k, l, hk, rfl, rfl, HLX, hl9, HBR⟩ := hrel
    have hws := HXW.out.1
    have hb1 : wr.cell? ⟨w.heap.size, 2, none⟩ = some (.slice dkA dkn dkc) := by rw [HBR.out.cell (p := ⟨w.heap.size, 2, none⟩) hws]; exact v3
    clear hws
    by_cases hlk : k < dkn
    · have hk1 : k < t.kids.length := by have := HK.out.1; omega
      have hk2 : k < ds.length := by have := HK.out.2; omega
      obtain ⟨hk3, hat⟩ := showL_at (nmOf ns) t.kids k hk1
      obtain ⟨kb, ko, hl0, hA, hkb, c0, _, _, _, _, _, _, _⟩ := (HD.out.kids.below (below_next HBW.out HBR.out) (Nat.le_refl _)).node_at hlk
      have hkk : (ds[k]).kind = t.kids[k].kind := by obtain ⟨_, h⟩ := (HD.out.each.at k hk1 hk2).of; exact h.kind
      have hk4 : k < L.length := by rw [HL.out]; exact hk3
      have hat2 : L[k] = (t.kids[k].kind, showT (nmOf ns) t.kids[k]) := by simp only [HL.out]; exact hat
      have hTK : rowT (L.take (k + 1)) = l ++ wrapT ((ds[k]).kind == 10) (showT (nmOf ns) t.kids[k]) := by rw [rowT_take L k hk4, hat2, ← hkk, HLX.out]
      have hln : (rowT (L.take (k + 1))).length ≤ 9000000 := Nat.le_trans (rowT_take_len L (k + 1)) HLT.out
      have C := Lib.hid (C23.out wr HBR.out k hlk hk1 ((ds[k]).kind == 10))
      obtain ⟨ek, he⟩ : ∃ e, e = (ds[k]).kind := ⟨_, rfl⟩
      rw [← he] at c0 hTK C
      obtain ⟨x, hx⟩ : ∃ x, x = wrapT (ek == 10) (showT (nmOf ns) t.kids[k]) := ⟨_, rfl⟩
      rw [← hx] at hTK C
      rw [hTK, List.length_append] at hln
      have g1 : ¬ 9223372036854775807 < l.length + x.length := by omega
      have HTK := Lib.hid hTK
      have HBA := Lib.hid (app_ba l x)
      clear hx he hTK hat hat2 hk3 hk4 hkk
      subst hA
      go_wp2_with (go_at_call 23; refine C.out.mono ?_; rintro e w1 ⟨rfl, hb⟩; have HB1 := Lib.hid (below_next HBR.out hb); clear hb)
      go_roundw
      case rel => exact ⟨k + 1, l ++ x, by omega, by go_num, congrArg Value.string HBA.out, Lib.hid HTK.out.symm, by rw [List.length_append]; omega, HB1⟩
      case measure => simp [intOf]; omega
    · obtain rfl : k = dkn := by omega
      have HE := Lib.hid (show l = rowT L by rw [HLX.out, List.take_of_length_le (by have := HLL.out; omega)])
      go_wp2_with fail
      go_ret
      exact ⟨by rw [← HE.out]; rfl, below_next HBW.out HBR.out⟩
set_option maxRecDepth 100000 in
set_option maxHeartbeats 8000000 in
theorem ref_either (ns : List (ByteArray × Int)) (t : Tr) (ih : ∀ k ∈ t.kids, Law10 ns k) (hlen : ∀ k ∈ t.kids, (showT (nmOf ns) k).length ≤ 9000000) (hlt : (showT (nmOf ns) t).length ≤ 9000000) (hk : t.kind = 10) : Law10 ns t := by
  intro d nA nn nc w hn hN
  have hmf := fun_run
  have hbs := ND.box_size w d
  have HB0 := Lib.hid (ND.box_below w d)
  obtain ⟨W, hW⟩ : ∃ W, W = (d.box w).alloc (.cells #[.slice nA nn nc] 26) := ⟨_, rfl⟩
  have HA := Lib.hid (show Below (d.box w).heap.size (d.box w) W by rw [hW]; exact (Below.refl _ _).alloc (Nat.le_refl _) _)
  have HBW := Lib.hid (below_next HB0.out HA.out)
  have HXW := Lib.hid ((BoxN.new w d).next HA.out)
  have HNX := Lib.hid (hn.next HBW.out)
  have HNN := Lib.hid (hN.next HBW.out)
  have n0 : W.cell? ⟨w.heap.size + 1, 0, none⟩ = some (.slice nA nn nc) := by rw [hW, ← hbs, Lib.cell_of_heap (heap_alloc_new (d.box w) _)]; rfl
  have HWS := Lib.hid (show W.heap.size = w.heap.size + 2 by rw [hW]; simp [hbs])
  obtain ⟨ds, hd⟩ := hn.of
  have HD := Lib.hid hd
  have hkind := hd.kind
  have HT := Lib.hid (show showT (nmOf ns) t = eithT (showL (nmOf ns) t.kids) by rw [showT_eq]; unfold showK; rw [if_neg (by omega), if_neg (by omega), if_neg (by omega), if_pos hk])
  rw [HT.out] at hlt ⊢
  obtain ⟨L, hL⟩ : ∃ L, L = showL (nmOf ns) t.kids := ⟨_, rfl⟩
  rw [← hL] at hlt HT ⊢
  have HL := Lib.hid hL
  have HLT := Lib.hid hlt
  have HK := Lib.hid hd.knum
  have hkc := hd.kc1
  have hkm := hd.kc2
  unfold maxLen at hkm
  have C23 := Lib.hid (fun (wq : World) (hb : Below W.heap.size W wq) (k : Nat) (hk : k < d.kn) (hk1 : k < t.kids.length) (wrap : Bool) => kid_call ns t ih hlen w W wq d ds nA nn nc hd HBW.out hb HXW.out n0 HNN.out (by have := HWS.out; omega) k hk hk1 wrap)
  unfold Says10 at C23
  have HLL := Lib.hid (show L.length = d.kn by rw [hL, showL_map, List.length_map]; exact hd.knum.1)
  rw [hk] at hkind
  clear hn hN hd hbs HB0 HA hk hL ih hlen hlt
  obtain ⟨dk, dsA, dsn, dsc, dkA, dkn, dkc, dnum, dleast, dmost, dway, dfold⟩ := d
  unfold ND.agg
  unfold ND.box at hW
  simp only at hW HXW HNX HD hkind HK hkc hkm C23 HLL ⊢
  obtain ⟨v0, v1, v2, v3, v4, v5, v6, v7, v8⟩ := HXW.out
  subst hkind
  go_enter Tryd.func10, Tryd.ntmps10
  go_upto_region 1 with (fail)
  rw [← hW]
  clear hW
  go_wp2_with fail
  go_loopw [6, 9] (fun s i wr => ∃ (k : Nat) (l : List UInt8), k ≤ dkn ∧ i = .int .i64 k ∧ s = .string ⟨l.toArray⟩ ∧ Hid (l = eithT (L.take k)) ∧ l.length ≤ 9000000 ∧ Hid (Below W.heap.size W wr)) (fun _ i _ => dkn - (intOf i).toNat)
  case atStart => exact ⟨0, [], Nat.zero_le _, rfl, rfl, Lib.hid rfl, by simp, Lib.hid (Below.refl _ _)⟩
  case round =>
    obtain ⟨k, l, hk, rfl, rfl, HLX, hl9, HBR⟩ := hrel
    have hws := HXW.out.1
    have hb1 : wr.cell? ⟨w.heap.size, 2, none⟩ = some (.slice dkA dkn dkc) := by rw [HBR.out.cell (p := ⟨w.heap.size, 2, none⟩) hws]; exact v3
    clear hws
    by_cases hlk : k < dkn
    · have hk1 : k < t.kids.length := by have := HK.out.1; omega
      have hk2 : k < ds.length := by have := HK.out.2; omega
      obtain ⟨hk3, hat⟩ := showL_at (nmOf ns) t.kids k hk1
      obtain ⟨kb, ko, hl0, hA, hkb, c0, _, _, _, _, _, _, _⟩ := (HD.out.kids.below (below_next HBW.out HBR.out) (Nat.le_refl _)).node_at hlk
      have hkk : (ds[k]).kind = t.kids[k].kind := by obtain ⟨_, h⟩ := (HD.out.each.at k hk1 hk2).of; exact h.kind
      have hk4 : k < L.length := by rw [HL.out]; exact hk3
      have hat2 : L[k] = (t.kids[k].kind, showT (nmOf ns) t.kids[k]) := by simp only [HL.out]; exact hat
      have hTK : eithT (L.take (k + 1)) = l ++ ((if k = 0 then [] else [124]) ++ showT (nmOf ns) t.kids[k]) := by rw [eithT_take L k hk4, hat2, HLX.out]
      have hln : (eithT (L.take (k + 1))).length ≤ 9000000 := Nat.le_trans (eithT_take_len L (k + 1)) HLT.out
      have C := Lib.hid (C23.out wr HBR.out k hlk hk1 false)
      unfold wrapT at C
      simp only [Bool.false_eq_true, if_false] at C
      obtain ⟨x, hx⟩ : ∃ x, x = showT (nmOf ns) t.kids[k] := ⟨_, rfl⟩
      rw [← hx] at hTK C
      rw [hTK] at hln
      have HTK := Lib.hid hTK
      clear hx hTK hat hat2 hk3 hk4 hkk c0
      subst hA
      by_cases h0 : k = 0
      · subst h0
        simp only [if_true, List.nil_append] at HTK hln
        rw [List.length_append] at hln
        have g1 : ¬ 9223372036854775807 < l.length + x.length := by omega
        have HBA := Lib.hid (app_ba l x)
        go_wp2_with (go_at_call 23; refine C.out.mono ?_; rintro e w1 ⟨rfl, hb⟩; have HB1 := Lib.hid (below_next HBR.out hb); clear hb)
        go_roundw
        case rel => exact ⟨1, l ++ x, by omega, by go_num, congrArg Value.string HBA.out, Lib.hid HTK.out.symm, by rw [List.length_append]; omega, HB1⟩
        case measure => simp [intOf]; omega
      · have hgt : 0 < k := by omega
        rw [if_neg h0] at hln
        rw [if_neg h0] at HTK
        clear h0
        simp only [List.length_append, List.length_cons, List.length_nil] at hln
        have g0 : ¬ 9223372036854775807 < l.length + 1 := by omega
        have g1 : ¬ 9223372036854775807 < l.length + 1 + x.length := by omega
        have HBA := Lib.hid (show (⟨l.toArray⟩ : ByteArray) ++ ⟨#[124]⟩ ++ ⟨x.toArray⟩ = ⟨(l ++ ([124] ++ x)).toArray⟩ by apply ByteArray.ext; simp)
        go_wp2_with (go_at_call 23; refine C.out.mono ?_; rintro e w1 ⟨rfl, hb⟩; have HB1 := Lib.hid (below_next HBR.out hb); clear hb)
        go_roundw
        case rel => exact ⟨k + 1, l ++ ([124] ++ x), by omega, by go_num, congrArg Value.string HBA.out, Lib.hid HTK.out.symm, by simp only [List.length_append, List.length_cons, List.length_nil]; omega, HB1⟩
        case measure => simp [intOf]; omega
    · obtain rfl : k = dkn := by omega
      have HE := Lib.hid (show l = eithT L by rw [HLX.out, List.take_of_length_le (by have := HLL.out; omega)])
      go_wp2_with fail
      go_ret
      exact ⟨by rw [← HE.out]; rfl, below_next HBW.out HBR.out⟩
end Go.Proofs.YtbekjfoefjnidaaDoor
namespace Go.Proofs.YtbekjfoefjnidaaDoor
open Go.RowKit
set_option linter.unusedVariables false
theorem headT_one (nm : Int → List UInt8) : ∀ (ks : List Tr) (h : ks.length = 1) (h0 : 0 < ks.length), headT (showL nm ks) = (ks[0].kind, showT nm ks[0])
  | [x], _, _ => by simp [showL, headT]
set_option maxRecDepth 100000 in
set_option maxHeartbeats 8000000 in
theorem ref_repeat (ns : List (ByteArray × Int)) (t : Tr) (ih : ∀ k ∈ t.kids, Law10 ns k) (hlen : ∀ k ∈ t.kids, (showT (nmOf ns) k).length ≤ 9000000) (hk : t.kind = 12) (h1k : t.kids.length = 1) (hl : 0 ≤ t.least ∧ t.least ≤ 100) (hm : -1 ≤ t.most ∧ t.most ≤ 100) (hw : 1 ≤ t.way ∧ t.way ≤ 3) : Law10 ns t := by
  intro d nA nn nc w hn hN
  have hmf := fun_run
  have hbs := ND.box_size w d
  have HB0 := Lib.hid (ND.box_below w d)
  obtain ⟨W, hW⟩ : ∃ W, W = (d.box w).alloc (.cells #[.slice nA nn nc] 26) := ⟨_, rfl⟩
  have HA := Lib.hid (show Below (d.box w).heap.size (d.box w) W by rw [hW]; exact (Below.refl _ _).alloc (Nat.le_refl _) _)
  have HBW := Lib.hid (below_next HB0.out HA.out)
  have HXW := Lib.hid ((BoxN.new w d).next HA.out)
  have HNX := Lib.hid (hn.next HBW.out)
  have HNN := Lib.hid (hN.next HBW.out)
  have n0 : W.cell? ⟨w.heap.size + 1, 0, none⟩ = some (.slice nA nn nc) := by rw [hW, ← hbs, Lib.cell_of_heap (heap_alloc_new (d.box w) _)]; rfl
  have HWS := Lib.hid (show W.heap.size = w.heap.size + 2 by rw [hW]; simp [hbs])
  obtain ⟨ds, hd⟩ := hn.of
  have HD := Lib.hid hd
  have hkind := hd.kind
  have HK := Lib.hid hd.knum
  have hkc := hd.kc1
  have hkm := hd.kc2
  unfold maxLen at hkm
  have C23 := Lib.hid (fun (wq : World) (hb : Below W.heap.size W wq) (k : Nat) (hk : k < d.kn) (hk1 : k < t.kids.length) (wrap : Bool) => kid_call ns t ih hlen w W wq d ds nA nn nc hd HBW.out hb HXW.out n0 HNN.out (by have := HWS.out; omega) k hk hk1 wrap)
  unfold Says10 at C23
  have h0k : 0 < t.kids.length := by omega
  have h0d : 0 < d.kn := by have := hd.knum.1; omega
  have h2k : 0 < ds.length := by have := hd.knum.2; omega
  have HT := Lib.hid (show showT (nmOf ns) t = repT (t.kids[0].kind, showT (nmOf ns) t.kids[0]) d.least d.most d.way by
    rw [showT_eq]; unfold showK; rw [if_neg (by omega), if_neg (by omega), if_neg (by omega), if_neg (by omega), if_pos hk, hd.least, hd.most, hd.way]
    rw [headT_one (nmOf ns) t.kids h1k h0k])
  rw [HT.out]
  rw [← hd.least] at hl
  rw [← hd.most] at hm
  rw [← hd.way] at hw
  have hlx := hlen t.kids[0] (List.getElem_mem h0k)
  have hkk : (ds[0]).kind = t.kids[0].kind := by obtain ⟨_, h⟩ := (hd.each.at 0 h0k h2k).of; exact h.kind
  have C := Lib.hid (fun (wq : World) (hb : Below W.heap.size W wq) (must : Bool) => C23.out wq hb 0 h0d h0k must)
  obtain ⟨kb, ko, hl0, hA, hkb, c0, _, _, _, _, _, _, _⟩ := (hd.kids.below HBW.out (Nat.le_refl _)).node_at h0d
  simp only [Nat.zero_mul, Nat.add_zero] at c0
  rw [← hkk] at HT ⊢
  obtain ⟨kk, he⟩ : ∃ e, e = (ds[0]).kind := ⟨_, rfl⟩
  rw [← he] at c0 HT ⊢
  obtain ⟨x, hx⟩ : ∃ x, x = showT (nmOf ns) t.kids[0] := ⟨_, rfl⟩
  rw [← hx] at HT hlx C ⊢
  clear hx he hkk
  have hdl := decT_len (n := d.least) hl.2
  rw [hk] at hkind
  clear hn hN hd hbs HB0 HA hk ih hlen h1k C23 HT h0k h2k
  obtain ⟨dk, dsA, dsn, dsc, dkA, dkn, dkc, dnum, dleast, dmost, dway, dfold⟩ := d
  unfold ND.agg
  unfold ND.box at hW
  simp only at hW HXW HNX HD hkind HK hkc hkm hl hm hw C h0d hA hdl ⊢
  obtain ⟨v0, v1, v2, v3, v4, v5, v6, v7, v8⟩ := HXW.out
  subst hkind hA
  go_enter Tryd.func10, Tryd.ntmps10
  go_upto_region 1 with (fail)
  rw [← hW]
  clear hW
  go_upto_region 30 with (fail)
  have hwl : ∀ must, (wrapT must x).length ≤ 9000004 := fun must => by have := wrapT_len must x; omega
  obtain ⟨dl, hdl'⟩ : ∃ z, z = decT dleast := ⟨_, rfl⟩
  rw [← hdl'] at hdl
  have HDL := Lib.hid hdl'
  have C25 : Hid (∀ (w' : World), Calls Tryd.prog 25 #[.int .i64 dleast] w' fun e w2 => e = .returned (.string ⟨dl.toArray⟩) ∧ Below w'.heap.size w' w2) := Lib.hid (fun w' => (decimal25 dleast w' hl.1 hl.2).mono (fun e w2 h => ⟨by rw [HDL.out]; exact h.1, h.2⟩))
  clear hdl'
  have HBAF := Lib.hid (fun y : List UInt8 => show (⟨y.toArray⟩ : ByteArray) ++ ⟨#[123]⟩ ++ ⟨dl.toArray⟩ ++ ⟨#[44]⟩ = ⟨(y ++ [123] ++ dl ++ [44]).toArray⟩ by apply ByteArray.ext; simp)
  go_cut [6] from 105 to 122 (fun z wc => z = .string ⟨(wrapT (repMust kk) x ++ [123] ++ dl ++ [44]).toArray⟩ ∧ Hid (Below W.heap.size W wc))
  case first =>
    by_cases k9 : kk = 9
    · subst k9
      obtain ⟨y, hy⟩ : ∃ y, y = wrapT true x := ⟨_, rfl⟩
      have HY := Lib.hid hy
      have hyl := hwl true
      rw [← hy] at hyl
      clear hy
      have CQ := fun (d : Nat) (os : Array Obj) => Calls.regrown_of ((C.out (Sort.grow (redrawn W d) os) (below_regrown W d os) true).mono (fun e w2 h => (⟨by rw [HY.out]; exact h.1, h.2⟩ : e = .returned (.string ⟨y.toArray⟩) ∧ Below (Sort.grow (redrawn W d) os).heap.size (Sort.grow (redrawn W d) os) w2)))
      have CD := fun (d : Nat) (os : Array Obj) => Calls.regrown_of (C25.out (Sort.grow (redrawn W d) os))
      have hc5 := fun (d : Nat) (os : Array Obj) => cell_regrown v5 d os
      have HBA := Lib.hid (show (⟨y.toArray⟩ : ByteArray) ++ ⟨#[123]⟩ ++ ⟨dl.toArray⟩ ++ ⟨#[44]⟩ = ⟨(wrapT (repMust 9) x ++ [123] ++ dl ++ [44]).toArray⟩ by rw [show repMust 9 = true from rfl, ← HY.out]; exact HBAF.out y)
      have g1 : ¬ 9223372036854775807 < y.length + 1 := by omega
      have g2 : ¬ 9223372036854775807 < y.length + 1 + dl.length := by omega
      have g3 : ¬ 9223372036854775807 < y.length + 1 + dl.length + 1 := by omega
      clear hwl hyl hdl
      refine wp_region_quiet_below (by kernel_rfl) (by kernel_rfl) ?_
      repeat (first | go_big_quiet_step ((first | exact CQ _ _ | exact CD _ _)) | quiet_step (first | exact CQ _ _ | exact CD _ _))
      refine wpQuiet_nil ?_
      intro _ hw'
      obtain ⟨⟨dq, osq⟩, hw''⟩ := hw'
      subst hw''
      have HBY := Lib.hid (below_regrown W dq osq)
      generalize Sort.grow (redrawn W dq) osq = WQ at HBY ⊢
      go_wp2_with fail
      go_meet
      exact ⟨congrArg Value.string HBA.out, HBY⟩
    by_cases k10 : kk = 10
    · subst k10
      obtain ⟨y, hy⟩ : ∃ y, y = wrapT true x := ⟨_, rfl⟩
      have HY := Lib.hid hy
      have hyl := hwl true
      rw [← hy] at hyl
      clear hy
      have CQ := fun (d : Nat) (os : Array Obj) => Calls.regrown_of ((C.out (Sort.grow (redrawn W d) os) (below_regrown W d os) true).mono (fun e w2 h => (⟨by rw [HY.out]; exact h.1, h.2⟩ : e = .returned (.string ⟨y.toArray⟩) ∧ Below (Sort.grow (redrawn W d) os).heap.size (Sort.grow (redrawn W d) os) w2)))
      have CD := fun (d : Nat) (os : Array Obj) => Calls.regrown_of (C25.out (Sort.grow (redrawn W d) os))
      have hc5 := fun (d : Nat) (os : Array Obj) => cell_regrown v5 d os
      have HBA := Lib.hid (show (⟨y.toArray⟩ : ByteArray) ++ ⟨#[123]⟩ ++ ⟨dl.toArray⟩ ++ ⟨#[44]⟩ = ⟨(wrapT (repMust 10) x ++ [123] ++ dl ++ [44]).toArray⟩ by rw [show repMust 10 = true from rfl, ← HY.out]; exact HBAF.out y)
      have g1 : ¬ 9223372036854775807 < y.length + 1 := by omega
      have g2 : ¬ 9223372036854775807 < y.length + 1 + dl.length := by omega
      have g3 : ¬ 9223372036854775807 < y.length + 1 + dl.length + 1 := by omega
      clear hwl hyl hdl
      refine wp_region_quiet_below (by kernel_rfl) (by kernel_rfl) ?_
      repeat (first | go_big_quiet_step ((first | exact CQ _ _ | exact CD _ _)) | quiet_step (first | exact CQ _ _ | exact CD _ _))
      refine wpQuiet_nil ?_
      intro _ hw'
      obtain ⟨⟨dq, osq⟩, hw''⟩ := hw'
      subst hw''
      have HBY := Lib.hid (below_regrown W dq osq)
      generalize Sort.grow (redrawn W dq) osq = WQ at HBY ⊢
      go_wp2_with fail
      go_meet
      exact ⟨congrArg Value.string HBA.out, HBY⟩
    by_cases k12 : kk = 12
    · subst k12
      obtain ⟨y, hy⟩ : ∃ y, y = wrapT true x := ⟨_, rfl⟩
      have HY := Lib.hid hy
      have hyl := hwl true
      rw [← hy] at hyl
      clear hy
      have CQ := fun (d : Nat) (os : Array Obj) => Calls.regrown_of ((C.out (Sort.grow (redrawn W d) os) (below_regrown W d os) true).mono (fun e w2 h => (⟨by rw [HY.out]; exact h.1, h.2⟩ : e = .returned (.string ⟨y.toArray⟩) ∧ Below (Sort.grow (redrawn W d) os).heap.size (Sort.grow (redrawn W d) os) w2)))
      have CD := fun (d : Nat) (os : Array Obj) => Calls.regrown_of (C25.out (Sort.grow (redrawn W d) os))
      have hc5 := fun (d : Nat) (os : Array Obj) => cell_regrown v5 d os
      have HBA := Lib.hid (show (⟨y.toArray⟩ : ByteArray) ++ ⟨#[123]⟩ ++ ⟨dl.toArray⟩ ++ ⟨#[44]⟩ = ⟨(wrapT (repMust 12) x ++ [123] ++ dl ++ [44]).toArray⟩ by rw [show repMust 12 = true from rfl, ← HY.out]; exact HBAF.out y)
      have g1 : ¬ 9223372036854775807 < y.length + 1 := by omega
      have g2 : ¬ 9223372036854775807 < y.length + 1 + dl.length := by omega
      have g3 : ¬ 9223372036854775807 < y.length + 1 + dl.length + 1 := by omega
      clear hwl hyl hdl
      refine wp_region_quiet_below (by kernel_rfl) (by kernel_rfl) ?_
      repeat (first | go_big_quiet_step ((first | exact CQ _ _ | exact CD _ _)) | quiet_step (first | exact CQ _ _ | exact CD _ _))
      refine wpQuiet_nil ?_
      intro _ hw'
      obtain ⟨⟨dq, osq⟩, hw''⟩ := hw'
      subst hw''
      have HBY := Lib.hid (below_regrown W dq osq)
      generalize Sort.grow (redrawn W dq) osq = WQ at HBY ⊢
      go_wp2_with fail
      go_meet
      exact ⟨congrArg Value.string HBA.out, HBY⟩
    have HFL := Lib.hid (show repMust kk = false by unfold repMust; simp [k9, k10, k12])
    have d9 : (kk == 9) = false := by simpa using k9
    have d10 : (kk == 10) = false := by simpa using k10
    have d12 : (kk == 12) = false := by simpa using k12
    clear k9 k10 k12
    · obtain ⟨y, hy⟩ : ∃ y, y = wrapT false x := ⟨_, rfl⟩
      have HY := Lib.hid hy
      have hyl := hwl false
      rw [← hy] at hyl
      clear hy
      have CQ := fun (d : Nat) (os : Array Obj) => Calls.regrown_of ((C.out (Sort.grow (redrawn W d) os) (below_regrown W d os) false).mono (fun e w2 h => (⟨by rw [HY.out]; exact h.1, h.2⟩ : e = .returned (.string ⟨y.toArray⟩) ∧ Below (Sort.grow (redrawn W d) os).heap.size (Sort.grow (redrawn W d) os) w2)))
      have CD := fun (d : Nat) (os : Array Obj) => Calls.regrown_of (C25.out (Sort.grow (redrawn W d) os))
      have hc5 := fun (d : Nat) (os : Array Obj) => cell_regrown v5 d os
      have HBA := Lib.hid (show (⟨y.toArray⟩ : ByteArray) ++ ⟨#[123]⟩ ++ ⟨dl.toArray⟩ ++ ⟨#[44]⟩ = ⟨(wrapT (repMust kk) x ++ [123] ++ dl ++ [44]).toArray⟩ by rw [HFL.out, ← HY.out]; exact HBAF.out y)
      have g1 : ¬ 9223372036854775807 < y.length + 1 := by omega
      have g2 : ¬ 9223372036854775807 < y.length + 1 + dl.length := by omega
      have g3 : ¬ 9223372036854775807 < y.length + 1 + dl.length + 1 := by omega
      clear hwl hyl hdl
      refine wp_region_quiet_below (by kernel_rfl) (by kernel_rfl) ?_
      repeat (first | go_big_quiet_step ((first | exact CQ _ _ | exact CD _ _)) | quiet_step (first | exact CQ _ _ | exact CD _ _))
      refine wpQuiet_nil ?_
      intro _ hw'
      obtain ⟨⟨dq, osq⟩, hw''⟩ := hw'
      subst hw''
      have HBY := Lib.hid (below_regrown W dq osq)
      generalize Sort.grow (redrawn W dq) osq = WQ at HBY ⊢
      go_wp2_with fail
      go_meet
      exact ⟨congrArg Value.string HBA.out, HBY⟩
  case rest =>
    obtain ⟨rfl, HB3⟩ := hcut
    clear C25 HBAF c0
    have hwr := wrapT_len (repMust kk) x
    obtain ⟨y, hy⟩ : ∃ y, y = wrapT (repMust kk) x ++ [123] ++ dl ++ [44] := ⟨_, rfl⟩
    have HY := Lib.hid hy
    have hyl : y.length ≤ 9000020 := by rw [hy]; simp only [List.length_append, List.length_cons, List.length_nil]; omega
    rw [← hy]
    clear hy hwr hwl hdl
    clear v0 v1 v2 v3 v4 v5 v6 v7 v8
    obtain ⟨v0, v1, v2, v3, v4, v5, v6, v7, v8⟩ := HXW.out.next HB3.out
    obtain ⟨mo, hmo⟩ : ∃ z, z = if 0 ≤ dmost then decT dmost else [] := ⟨_, rfl⟩
    have HMO := Lib.hid hmo
    have hmol : mo.length ≤ 3 := by rw [hmo]; split; exact decT_len hm.2; simp
    clear hmo
    go_upto_if 125 with (fail)
    go_cut [6] from 125 to 130 (fun z wd => z = .string ⟨(y ++ mo).toArray⟩ ∧ Hid (Below W.heap.size W wd))
    case first =>
      by_cases h0 : 0 ≤ dmost
      · have HM2 := Lib.hid (show mo = decT dmost by rw [HMO.out, if_pos h0])
        have C25 := Lib.hid (decimal25 dmost wc h0 hm.2)
        rw [← HM2.out] at C25
        have g1 : ¬ 9223372036854775807 < y.length + mo.length := by omega
        have HBA := Lib.hid (app_ba y mo)
        go_wp2_with (go_at_call 25; refine C25.out.mono ?_; rintro e w6 ⟨rfl, hb⟩; have HB6 := Lib.hid (below_next HB3.out hb); clear hb)
        go_meet
        exact ⟨congrArg Value.string HBA.out, HB6⟩
      · have HM2 := Lib.hid (show mo = [] by rw [HMO.out, if_neg h0])
        have h0' : dmost < 0 := by omega
        go_wp2_with fail
        go_meet
        exact ⟨by rw [HM2.out, List.append_nil], HB3⟩
    case rest =>
      obtain ⟨rfl, HB8⟩ := hcut
      have hzl : (y ++ mo).length ≤ 9000030 := by rw [List.length_append]; omega
      obtain ⟨z, hz⟩ : ∃ z, z = y ++ mo := ⟨_, rfl⟩
      rw [← hz] at hzl ⊢
      have HEND := Lib.hid (show z ++ [125] ++ wayT dway = repT (kk, x) dleast dmost dway by rw [hz, HY.out, HDL.out, HMO.out]; rfl)
      clear hz hyl hmol
      clear v0 v1 v2 v3 v4 v5 v6 v7 v8
      obtain ⟨v0, v1, v2, v3, v4, v5, v6, v7, v8⟩ := HXW.out.next HB8.out
      have HBE := Lib.hid (below_next HBW.out (HB8.out.alloc HB8.out.size (.cells #[.string ⟨#[]⟩, .string ⟨#[]⟩, .string ⟨#[63]⟩, .string ⟨#[43]⟩] 9)))
      have g1 : ¬ 9223372036854775807 < z.length + 1 := by omega
      have g2 : ¬ 9223372036854775807 < z.length + 1 + 1 := by omega
      have HBA := Lib.hid (fun u : List UInt8 => show (⟨z.toArray⟩ : ByteArray) ++ ⟨#[125]⟩ ++ ⟨u.toArray⟩ = ⟨(z ++ [125] ++ u).toArray⟩ by apply ByteArray.ext; simp)
      have hway : dway = 1 ∨ dway = 2 ∨ dway = 3 := by omega
      rcases hway with rfl | rfl | rfl
      · have HB := Lib.hid ((HBA.out []).trans (congrArg (fun u : List UInt8 => (⟨u.toArray⟩ : ByteArray)) HEND.out))
        go_wp2_with fail
        go_ret
        exact ⟨ret_str HB.out, HBE.out⟩
      · have HB := Lib.hid ((HBA.out [63]).trans (congrArg (fun u : List UInt8 => (⟨u.toArray⟩ : ByteArray)) HEND.out))
        go_wp2_with fail
        go_ret
        exact ⟨ret_str HB.out, HBE.out⟩
      · have HB := Lib.hid ((HBA.out [43]).trans (congrArg (fun u : List UInt8 => (⟨u.toArray⟩ : ByteArray)) HEND.out))
        go_wp2_with fail
        go_ret
        exact ⟨ret_str HB.out, HBE.out⟩
end Go.Proofs.YtbekjfoefjnidaaDoor
namespace Go.Proofs.YtbekjfoefjnidaaDoor
open Go.RowKit
set_option linter.unusedVariables false
set_option maxRecDepth 100000 in
set_option maxHeartbeats 8000000 in
theorem ref_grp_11 (ns : List (ByteArray × Int)) (t : Tr) (ih : ∀ k ∈ t.kids, Law10 ns k) (hlen : ∀ k ∈ t.kids, (showT (nmOf ns) k).length ≤ 9000000) (hk : t.kind = 11) (h1k : t.kids.length = 1) (hnum : 0 ≤ t.num ∧ t.num ≤ 20) : Law10 ns t := by
  intro d nA nn nc w hn hN
  have hmf := fun_run
  have hbs := ND.box_size w d
  have HB0 := Lib.hid (ND.box_below w d)
  obtain ⟨W, hW⟩ : ∃ W, W = (d.box w).alloc (.cells #[.slice nA nn nc] 26) := ⟨_, rfl⟩
  have HA := Lib.hid (show Below (d.box w).heap.size (d.box w) W by rw [hW]; exact (Below.refl _ _).alloc (Nat.le_refl _) _)
  have HBW := Lib.hid (below_next HB0.out HA.out)
  have HXW := Lib.hid ((BoxN.new w d).next HA.out)
  have HNX := Lib.hid (hn.next HBW.out)
  have HNN := Lib.hid (hN.next HBW.out)
  have n0 : W.cell? ⟨w.heap.size + 1, 0, none⟩ = some (.slice nA nn nc) := by rw [hW, ← hbs, Lib.cell_of_heap (heap_alloc_new (d.box w) _)]; rfl
  have HWS := Lib.hid (show W.heap.size = w.heap.size + 2 by rw [hW]; simp [hbs])
  obtain ⟨ds, hd⟩ := hn.of
  have HD := Lib.hid hd
  have hkind := hd.kind
  have HK := Lib.hid hd.knum
  have hkc := hd.kc1
  have hkm := hd.kc2
  unfold maxLen at hkm
  have C23 := Lib.hid (fun (wq : World) (hb : Below W.heap.size W wq) (k : Nat) (hk : k < d.kn) (hk1 : k < t.kids.length) (wrap : Bool) => kid_call ns t ih hlen w W wq d ds nA nn nc hd HBW.out hb HXW.out n0 HNN.out (by have := HWS.out; omega) k hk hk1 wrap)
  unfold Says10 at C23
  have h0k : 0 < t.kids.length := by omega
  have h0d : 0 < d.kn := by have := hd.knum.1; omega
  rw [← hd.num] at hnum
  have HM := Lib.hid (markN_eq ns d.num (fun x hx => (HNN.out.2.2.2 x hx).1))
  have HT := Lib.hid (show showT (nmOf ns) t = ([40] : List UInt8) ++ markN ns d.num ++ showT (nmOf ns) t.kids[0] ++ [41] by
    rw [showT_eq]; unfold showK; rw [if_neg (by omega), if_neg (by omega), if_neg (by omega), if_neg (by omega), if_neg (by omega), if_neg (by omega), if_pos (by omega), headT_one (nmOf ns) t.kids h1k h0k, hk, HM.out, hd.num])
  have hnn := HNN.out.2.1
  have hnc := HNN.out.2.2.1
  unfold maxLen at hnc
  rw [HT.out]
  have hlx := hlen t.kids[0] (List.getElem_mem h0k)
  have C := Lib.hid (fun (wq : World) (hb : Below W.heap.size W wq) => C23.out wq hb 0 h0d h0k false)
  unfold wrapT at C
  simp only [Bool.false_eq_true, if_false] at C
  obtain ⟨x, hx⟩ : ∃ x, x = showT (nmOf ns) t.kids[0] := ⟨_, rfl⟩
  rw [← hx] at HT hlx C ⊢
  clear hx
  rw [hk] at hkind
  clear hn hN hd hbs HB0 HA hk ih hlen h1k C23 HT h0k
  obtain ⟨dk, dsA, dsn, dsc, dkA, dkn, dkc, dnum, dleast, dmost, dway, dfold⟩ := d
  unfold ND.agg
  unfold ND.box at hW
  simp only at hW HXW HNX HD hkind HK hkc hkm C h0d hnum HM ⊢
  obtain ⟨v0, v1, v2, v3, v4, v5, v6, v7, v8⟩ := HXW.out
  subst hkind
  have hB3 := Below.alloc (Below.refl W.heap.size W) (Nat.le_refl _) (.cells #[.string ⟨#[]⟩, .string ⟨#[]⟩, .string ⟨#[63, 62]⟩, .string ⟨#[63, 61]⟩, .string ⟨#[63, 33]⟩, .string ⟨#[63, 60, 61]⟩, .string ⟨#[63, 60, 33]⟩] 9)
  have hx3 := HXW.out.next hB3
  have hq0 : (W.alloc (.cells #[.string ⟨#[]⟩, .string ⟨#[]⟩, .string ⟨#[63, 62]⟩, .string ⟨#[63, 61]⟩, .string ⟨#[63, 33]⟩, .string ⟨#[63, 60, 61]⟩, .string ⟨#[63, 60, 33]⟩] 9)).cell? ⟨w.heap.size + 1, 0, none⟩ = some (.slice nA nn nc) := by rw [hB3.cell (p := ⟨w.heap.size + 1, 0, none⟩) (by have := HWS.out; show w.heap.size + 1 < _; omega)]; exact n0
  have HB3 := Lib.hid hB3
  have HQ0 := Lib.hid hq0
  have HX3 := Lib.hid hx3
  clear hB3 hq0 hx3
  go_enter Tryd.func10, Tryd.ntmps10
  go_upto_region 1 with (fail)
  rw [← hW]
  clear hW
  go_upto_region 42 with (fail)
  generalize hW3 : W.alloc (.cells #[.string ⟨#[]⟩, .string ⟨#[]⟩, .string ⟨#[63, 62]⟩, .string ⟨#[63, 61]⟩, .string ⟨#[63, 33]⟩, .string ⟨#[63, 60, 61]⟩, .string ⟨#[63, 60, 33]⟩] 9) = W3 at *
  clear hW3 v0 v1 v2 v3 v4 v5 v6 v7 v8 n0
  go_wp2_with fail
  go_loopw [6, 11] (fun s i wr => ∃ (k : Nat) (l : List UInt8), k ≤ nn ∧ i = .int .i64 k ∧ s = .string ⟨l.toArray⟩ ∧ Hid (l = markN (ns.take k) dnum) ∧ l.length ≤ 23 ∧ Hid (Below W3.heap.size W3 wr)) (fun _ i _ => nn - (intOf i).toNat)
  case atStart => exact ⟨0, [], Nat.zero_le _, rfl, rfl, Lib.hid rfl, by simp, Lib.hid (Below.refl _ _)⟩
  case round =>
    obtain ⟨k, l, hk, rfl, rfl, HLX, hl23, HBR⟩ := hrel
    have HBT := Lib.hid (below_next HB3.out HBR.out)
    obtain ⟨v0, v1, v2, v3, v4, v5, v6, v7, v8⟩ := HX3.out.next HBR.out
    have n0 : wr.cell? ⟨w.heap.size + 1, 0, none⟩ = some (.slice nA nn nc) := by rw [HBR.out.cell (p := ⟨w.heap.size + 1, 0, none⟩) (World.block_lt_of_cell? W3 _ HQ0.out)]; exact HQ0.out
    by_cases hlk : k < nn
    · obtain ⟨ab, off, hl0, rfl, hab, c0, c1⟩ := (HNN.out.1.below HBT.out (Nat.le_refl _)).at hlk
      have HSZ := Lib.hid ((HNN.out.2.2.2 _ (List.getElem_mem hl0)).2)
      have HTK := Lib.hid (markN_take ns k hl0 dnum)
      obtain ⟨u, hu⟩ : ∃ u, u = ns[k].2 := ⟨_, rfl⟩
      obtain ⟨z, hz⟩ : ∃ z, z = ns[k].1 := ⟨_, rfl⟩
      rw [← hz] at c0 HTK HSZ
      rw [← hu] at c1 HTK
      have hzl : z.size ≤ 20 := HSZ.out
      clear hu hz
      have g1 : ¬ 9223372036854775807 < 2 + z.size := by omega
      have g2 : ¬ 9223372036854775807 < 2 + z.size + 1 := by omega
      by_cases he : u = dnum
      · subst he
        rw [if_pos rfl] at HTK
        have HBA := Lib.hid (show (⟨#[63, 60]⟩ : ByteArray) ++ z ++ ⟨#[62]⟩ = ⟨(([63, 60] : List UInt8) ++ z.data.toList ++ [62]).toArray⟩ by apply ByteArray.ext; simp)
        have HLZ := Lib.hid (show (([63, 60] : List UInt8) ++ z.data.toList ++ [62]).length ≤ 23 by simp only [List.length_append, List.length_cons, List.length_nil, Array.length_toList]; have := HSZ.out; have : z.data.size = z.size := rfl; omega)
        go_upto_region 45 with (fail)
        go_quiet (fail)
        go_wp2_with fail
        go_roundw
        case rel => exact ⟨k + 1, [63, 60] ++ z.data.toList ++ [62], by omega, by go_num, congrArg Value.string HBA.out, Lib.hid HTK.out.symm, HLZ.out, Lib.hid (below_drewN HBR.out nq)⟩
        case measure => simp [intOf]; omega
      · have e1 : (u == dnum) = false := by simpa using he
        rw [if_neg he, ← HLX.out] at HTK
        clear he
        go_upto_region 45 with (fail)
        go_quiet (fail)
        go_wp2_with fail
        go_roundw
        case rel => exact ⟨k + 1, l, by omega, by go_num, rfl, Lib.hid HTK.out.symm, hl23, Lib.hid (below_drewN HBR.out nq)⟩
        case measure => simp [intOf]; omega
    · obtain rfl : k = nn := by omega
      have HE := Lib.hid (show l = markN ns dnum by rw [HLX.out, List.take_of_length_le (by have := HNN.out.1.len; omega)])
      have g1 : ¬ 9223372036854775807 < 1 + l.length := by omega
      have g2 : ¬ 9223372036854775807 < 1 + l.length + x.length := by omega
      have g3 : ¬ 9223372036854775807 < 1 + l.length + x.length + 1 := by omega
      have CW := Lib.hid (C.out wr HBT.out)
      have HBA := Lib.hid (show (⟨#[40]⟩ : ByteArray) ++ ⟨l.toArray⟩ ++ ⟨x.toArray⟩ ++ ⟨#[41]⟩ = ⟨(([40] : List UInt8) ++ markN ns dnum ++ x ++ [41]).toArray⟩ by rw [← HE.out]; apply ByteArray.ext; simp)
      go_wp2_with (go_at_call 23; refine CW.out.mono ?_; rintro e w4 ⟨rfl, hb⟩; have HB4 := Lib.hid (below_next HBT.out hb); clear hb)
      go_ret
      exact ⟨ret_str HBA.out, below_next HBW.out HB4.out⟩
set_option maxRecDepth 100000 in
set_option maxHeartbeats 8000000 in
theorem ref_grp_13 (ns : List (ByteArray × Int)) (t : Tr) (ih : ∀ k ∈ t.kids, Law10 ns k) (hlen : ∀ k ∈ t.kids, (showT (nmOf ns) k).length ≤ 9000000) (hk : t.kind = 13) (h1k : t.kids.length = 1) : Law10 ns t := by
  intro d nA nn nc w hn hN
  have hmf := fun_run
  have hbs := ND.box_size w d
  have HB0 := Lib.hid (ND.box_below w d)
  obtain ⟨W, hW⟩ : ∃ W, W = (d.box w).alloc (.cells #[.slice nA nn nc] 26) := ⟨_, rfl⟩
  have HA := Lib.hid (show Below (d.box w).heap.size (d.box w) W by rw [hW]; exact (Below.refl _ _).alloc (Nat.le_refl _) _)
  have HBW := Lib.hid (below_next HB0.out HA.out)
  have HXW := Lib.hid ((BoxN.new w d).next HA.out)
  have HNX := Lib.hid (hn.next HBW.out)
  have HNN := Lib.hid (hN.next HBW.out)
  have n0 : W.cell? ⟨w.heap.size + 1, 0, none⟩ = some (.slice nA nn nc) := by rw [hW, ← hbs, Lib.cell_of_heap (heap_alloc_new (d.box w) _)]; rfl
  have HWS := Lib.hid (show W.heap.size = w.heap.size + 2 by rw [hW]; simp [hbs])
  obtain ⟨ds, hd⟩ := hn.of
  have HD := Lib.hid hd
  have hkind := hd.kind
  have HK := Lib.hid hd.knum
  have hkc := hd.kc1
  have hkm := hd.kc2
  unfold maxLen at hkm
  have C23 := Lib.hid (fun (wq : World) (hb : Below W.heap.size W wq) (k : Nat) (hk : k < d.kn) (hk1 : k < t.kids.length) (wrap : Bool) => kid_call ns t ih hlen w W wq d ds nA nn nc hd HBW.out hb HXW.out n0 HNN.out (by have := HWS.out; omega) k hk hk1 wrap)
  unfold Says10 at C23
  have h0k : 0 < t.kids.length := by omega
  have h0d : 0 < d.kn := by have := hd.knum.1; omega
  have HT := Lib.hid (show showT (nmOf ns) t = ([40] : List UInt8) ++ ([63, 62] : List UInt8) ++ showT (nmOf ns) t.kids[0] ++ [41] by
    rw [showT_eq]; unfold showK; rw [if_neg (by omega), if_neg (by omega), if_neg (by omega), if_neg (by omega), if_neg (by omega), if_neg (by omega), if_pos (by omega), headT_one (nmOf ns) t.kids h1k h0k, hk]; rfl)
  rw [HT.out]
  have hlx := hlen t.kids[0] (List.getElem_mem h0k)
  have C := Lib.hid (fun (wq : World) (hb : Below W.heap.size W wq) => C23.out wq hb 0 h0d h0k false)
  unfold wrapT at C
  simp only [Bool.false_eq_true, if_false] at C
  obtain ⟨x, hx⟩ : ∃ x, x = showT (nmOf ns) t.kids[0] := ⟨_, rfl⟩
  rw [← hx] at HT hlx C ⊢
  clear hx
  rw [hk] at hkind
  clear hn hN hd hbs HB0 HA hk ih hlen h1k C23 HT h0k
  obtain ⟨dk, dsA, dsn, dsc, dkA, dkn, dkc, dnum, dleast, dmost, dway, dfold⟩ := d
  unfold ND.agg
  unfold ND.box at hW
  simp only at hW HXW HNX HD hkind HK hkc hkm C h0d ⊢
  obtain ⟨v0, v1, v2, v3, v4, v5, v6, v7, v8⟩ := HXW.out
  subst hkind
  have hB3 := Below.alloc (Below.refl W.heap.size W) (Nat.le_refl _) (.cells #[.string ⟨#[]⟩, .string ⟨#[]⟩, .string ⟨#[63, 62]⟩, .string ⟨#[63, 61]⟩, .string ⟨#[63, 33]⟩, .string ⟨#[63, 60, 61]⟩, .string ⟨#[63, 60, 33]⟩] 9)
  have hx3 := HXW.out.next hB3
  have hq0 : (W.alloc (.cells #[.string ⟨#[]⟩, .string ⟨#[]⟩, .string ⟨#[63, 62]⟩, .string ⟨#[63, 61]⟩, .string ⟨#[63, 33]⟩, .string ⟨#[63, 60, 61]⟩, .string ⟨#[63, 60, 33]⟩] 9)).cell? ⟨w.heap.size + 1, 0, none⟩ = some (.slice nA nn nc) := by rw [hB3.cell (p := ⟨w.heap.size + 1, 0, none⟩) (by have := HWS.out; show w.heap.size + 1 < _; omega)]; exact n0
  have HB3 := Lib.hid hB3
  have HQ0 := Lib.hid hq0
  have HX3 := Lib.hid hx3
  clear hB3 hq0 hx3
  go_enter Tryd.func10, Tryd.ntmps10
  go_upto_region 1 with (fail)
  rw [← hW]
  clear hW
  by_cases h0 : nn = 0
  all_goals
    go_upto_region 42 with (fail)
    generalize hW3 : W.alloc (.cells #[.string ⟨#[]⟩, .string ⟨#[]⟩, .string ⟨#[63, 62]⟩, .string ⟨#[63, 61]⟩, .string ⟨#[63, 33]⟩, .string ⟨#[63, 60, 61]⟩, .string ⟨#[63, 60, 33]⟩] 9) = W3 at *
    clear hW3 v0 v1 v2 v3 v4 v5 v6 v7 v8 n0
    obtain ⟨v0, v1, v2, v3, v4, v5, v6, v7, v8⟩ := HX3.out
    have n0 := HQ0.out
    have g1 : ¬ 9223372036854775807 < 3 + x.length := by omega
    have g2 : ¬ 9223372036854775807 < 3 + x.length + 1 := by omega
    have CW := Lib.hid (C.out W3 HB3.out)
    have HBA := Lib.hid (show (⟨#[40, 63, 62]⟩ : ByteArray) ++ ⟨x.toArray⟩ ++ ⟨#[41]⟩ = ⟨(([40] : List UInt8) ++ ([63, 62] : List UInt8) ++ x ++ [41]).toArray⟩ by apply ByteArray.ext; simp)
    go_wp2_with fail
    go_loopw [6, 11] (fun s i wr => s = .string ⟨#[63, 62]⟩ ∧ i = .int .i64 0 ∧ W3 = wr) (fun _ _ _ => 0)
    case atStart => exact ⟨rfl, rfl, rfl⟩
    case round =>
      obtain ⟨rfl, rfl, rfl⟩ := hrel
      first
        | (subst h0
           go_wp2_with (go_at_call 23; refine CW.out.mono ?_; rintro e w4 ⟨rfl, hb⟩; have HB4 := Lib.hid (below_next HB3.out hb); clear hb)
           go_ret
           exact ⟨ret_str HBA.out, below_next HBW.out HB4.out⟩)
        | (have h1 : 0 < nn := by omega
           clear h0
           go_wp2_with (go_at_call 23; refine CW.out.mono ?_; rintro e w4 ⟨rfl, hb⟩; have HB4 := Lib.hid (below_next HB3.out hb); clear hb)
           go_ret
           exact ⟨ret_str HBA.out, below_next HBW.out HB4.out⟩)
set_option maxRecDepth 100000 in
set_option maxHeartbeats 8000000 in
theorem ref_grp_14 (ns : List (ByteArray × Int)) (t : Tr) (ih : ∀ k ∈ t.kids, Law10 ns k) (hlen : ∀ k ∈ t.kids, (showT (nmOf ns) k).length ≤ 9000000) (hk : t.kind = 14) (h1k : t.kids.length = 1) : Law10 ns t := by
  intro d nA nn nc w hn hN
  have hmf := fun_run
  have hbs := ND.box_size w d
  have HB0 := Lib.hid (ND.box_below w d)
  obtain ⟨W, hW⟩ : ∃ W, W = (d.box w).alloc (.cells #[.slice nA nn nc] 26) := ⟨_, rfl⟩
  have HA := Lib.hid (show Below (d.box w).heap.size (d.box w) W by rw [hW]; exact (Below.refl _ _).alloc (Nat.le_refl _) _)
  have HBW := Lib.hid (below_next HB0.out HA.out)
  have HXW := Lib.hid ((BoxN.new w d).next HA.out)
  have HNX := Lib.hid (hn.next HBW.out)
  have HNN := Lib.hid (hN.next HBW.out)
  have n0 : W.cell? ⟨w.heap.size + 1, 0, none⟩ = some (.slice nA nn nc) := by rw [hW, ← hbs, Lib.cell_of_heap (heap_alloc_new (d.box w) _)]; rfl
  have HWS := Lib.hid (show W.heap.size = w.heap.size + 2 by rw [hW]; simp [hbs])
  obtain ⟨ds, hd⟩ := hn.of
  have HD := Lib.hid hd
  have hkind := hd.kind
  have HK := Lib.hid hd.knum
  have hkc := hd.kc1
  have hkm := hd.kc2
  unfold maxLen at hkm
  have C23 := Lib.hid (fun (wq : World) (hb : Below W.heap.size W wq) (k : Nat) (hk : k < d.kn) (hk1 : k < t.kids.length) (wrap : Bool) => kid_call ns t ih hlen w W wq d ds nA nn nc hd HBW.out hb HXW.out n0 HNN.out (by have := HWS.out; omega) k hk hk1 wrap)
  unfold Says10 at C23
  have h0k : 0 < t.kids.length := by omega
  have h0d : 0 < d.kn := by have := hd.knum.1; omega
  have HT := Lib.hid (show showT (nmOf ns) t = ([40] : List UInt8) ++ ([63, 61] : List UInt8) ++ showT (nmOf ns) t.kids[0] ++ [41] by
    rw [showT_eq]; unfold showK; rw [if_neg (by omega), if_neg (by omega), if_neg (by omega), if_neg (by omega), if_neg (by omega), if_neg (by omega), if_pos (by omega), headT_one (nmOf ns) t.kids h1k h0k, hk]; rfl)
  rw [HT.out]
  have hlx := hlen t.kids[0] (List.getElem_mem h0k)
  have C := Lib.hid (fun (wq : World) (hb : Below W.heap.size W wq) => C23.out wq hb 0 h0d h0k false)
  unfold wrapT at C
  simp only [Bool.false_eq_true, if_false] at C
  obtain ⟨x, hx⟩ : ∃ x, x = showT (nmOf ns) t.kids[0] := ⟨_, rfl⟩
  rw [← hx] at HT hlx C ⊢
  clear hx
  rw [hk] at hkind
  clear hn hN hd hbs HB0 HA hk ih hlen h1k C23 HT h0k
  obtain ⟨dk, dsA, dsn, dsc, dkA, dkn, dkc, dnum, dleast, dmost, dway, dfold⟩ := d
  unfold ND.agg
  unfold ND.box at hW
  simp only at hW HXW HNX HD hkind HK hkc hkm C h0d ⊢
  obtain ⟨v0, v1, v2, v3, v4, v5, v6, v7, v8⟩ := HXW.out
  subst hkind
  have hB3 := Below.alloc (Below.refl W.heap.size W) (Nat.le_refl _) (.cells #[.string ⟨#[]⟩, .string ⟨#[]⟩, .string ⟨#[63, 62]⟩, .string ⟨#[63, 61]⟩, .string ⟨#[63, 33]⟩, .string ⟨#[63, 60, 61]⟩, .string ⟨#[63, 60, 33]⟩] 9)
  have hx3 := HXW.out.next hB3
  have hq0 : (W.alloc (.cells #[.string ⟨#[]⟩, .string ⟨#[]⟩, .string ⟨#[63, 62]⟩, .string ⟨#[63, 61]⟩, .string ⟨#[63, 33]⟩, .string ⟨#[63, 60, 61]⟩, .string ⟨#[63, 60, 33]⟩] 9)).cell? ⟨w.heap.size + 1, 0, none⟩ = some (.slice nA nn nc) := by rw [hB3.cell (p := ⟨w.heap.size + 1, 0, none⟩) (by have := HWS.out; show w.heap.size + 1 < _; omega)]; exact n0
  have HB3 := Lib.hid hB3
  have HQ0 := Lib.hid hq0
  have HX3 := Lib.hid hx3
  clear hB3 hq0 hx3
  go_enter Tryd.func10, Tryd.ntmps10
  go_upto_region 1 with (fail)
  rw [← hW]
  clear hW
  by_cases h0 : nn = 0
  all_goals
    go_upto_region 42 with (fail)
    generalize hW3 : W.alloc (.cells #[.string ⟨#[]⟩, .string ⟨#[]⟩, .string ⟨#[63, 62]⟩, .string ⟨#[63, 61]⟩, .string ⟨#[63, 33]⟩, .string ⟨#[63, 60, 61]⟩, .string ⟨#[63, 60, 33]⟩] 9) = W3 at *
    clear hW3 v0 v1 v2 v3 v4 v5 v6 v7 v8 n0
    obtain ⟨v0, v1, v2, v3, v4, v5, v6, v7, v8⟩ := HX3.out
    have n0 := HQ0.out
    have g1 : ¬ 9223372036854775807 < 3 + x.length := by omega
    have g2 : ¬ 9223372036854775807 < 3 + x.length + 1 := by omega
    have CW := Lib.hid (C.out W3 HB3.out)
    have HBA := Lib.hid (show (⟨#[40, 63, 61]⟩ : ByteArray) ++ ⟨x.toArray⟩ ++ ⟨#[41]⟩ = ⟨(([40] : List UInt8) ++ ([63, 61] : List UInt8) ++ x ++ [41]).toArray⟩ by apply ByteArray.ext; simp)
    go_wp2_with fail
    go_loopw [6, 11] (fun s i wr => s = .string ⟨#[63, 61]⟩ ∧ i = .int .i64 0 ∧ W3 = wr) (fun _ _ _ => 0)
    case atStart => exact ⟨rfl, rfl, rfl⟩
    case round =>
      obtain ⟨rfl, rfl, rfl⟩ := hrel
      first
        | (subst h0
           go_wp2_with (go_at_call 23; refine CW.out.mono ?_; rintro e w4 ⟨rfl, hb⟩; have HB4 := Lib.hid (below_next HB3.out hb); clear hb)
           go_ret
           exact ⟨ret_str HBA.out, below_next HBW.out HB4.out⟩)
        | (have h1 : 0 < nn := by omega
           clear h0
           go_wp2_with (go_at_call 23; refine CW.out.mono ?_; rintro e w4 ⟨rfl, hb⟩; have HB4 := Lib.hid (below_next HB3.out hb); clear hb)
           go_ret
           exact ⟨ret_str HBA.out, below_next HBW.out HB4.out⟩)
set_option maxRecDepth 100000 in
set_option maxHeartbeats 8000000 in
theorem ref_grp_15 (ns : List (ByteArray × Int)) (t : Tr) (ih : ∀ k ∈ t.kids, Law10 ns k) (hlen : ∀ k ∈ t.kids, (showT (nmOf ns) k).length ≤ 9000000) (hk : t.kind = 15) (h1k : t.kids.length = 1) : Law10 ns t := by
  intro d nA nn nc w hn hN
  have hmf := fun_run
  have hbs := ND.box_size w d
  have HB0 := Lib.hid (ND.box_below w d)
  obtain ⟨W, hW⟩ : ∃ W, W = (d.box w).alloc (.cells #[.slice nA nn nc] 26) := ⟨_, rfl⟩
  have HA := Lib.hid (show Below (d.box w).heap.size (d.box w) W by rw [hW]; exact (Below.refl _ _).alloc (Nat.le_refl _) _)
  have HBW := Lib.hid (below_next HB0.out HA.out)
  have HXW := Lib.hid ((BoxN.new w d).next HA.out)
  have HNX := Lib.hid (hn.next HBW.out)
  have HNN := Lib.hid (hN.next HBW.out)
  have n0 : W.cell? ⟨w.heap.size + 1, 0, none⟩ = some (.slice nA nn nc) := by rw [hW, ← hbs, Lib.cell_of_heap (heap_alloc_new (d.box w) _)]; rfl
  have HWS := Lib.hid (show W.heap.size = w.heap.size + 2 by rw [hW]; simp [hbs])
  obtain ⟨ds, hd⟩ := hn.of
  have HD := Lib.hid hd
  have hkind := hd.kind
  have HK := Lib.hid hd.knum
  have hkc := hd.kc1
  have hkm := hd.kc2
  unfold maxLen at hkm
  have C23 := Lib.hid (fun (wq : World) (hb : Below W.heap.size W wq) (k : Nat) (hk : k < d.kn) (hk1 : k < t.kids.length) (wrap : Bool) => kid_call ns t ih hlen w W wq d ds nA nn nc hd HBW.out hb HXW.out n0 HNN.out (by have := HWS.out; omega) k hk hk1 wrap)
  unfold Says10 at C23
  have h0k : 0 < t.kids.length := by omega
  have h0d : 0 < d.kn := by have := hd.knum.1; omega
  have HT := Lib.hid (show showT (nmOf ns) t = ([40] : List UInt8) ++ ([63, 33] : List UInt8) ++ showT (nmOf ns) t.kids[0] ++ [41] by
    rw [showT_eq]; unfold showK; rw [if_neg (by omega), if_neg (by omega), if_neg (by omega), if_neg (by omega), if_neg (by omega), if_neg (by omega), if_pos (by omega), headT_one (nmOf ns) t.kids h1k h0k, hk]; rfl)
  rw [HT.out]
  have hlx := hlen t.kids[0] (List.getElem_mem h0k)
  have C := Lib.hid (fun (wq : World) (hb : Below W.heap.size W wq) => C23.out wq hb 0 h0d h0k false)
  unfold wrapT at C
  simp only [Bool.false_eq_true, if_false] at C
  obtain ⟨x, hx⟩ : ∃ x, x = showT (nmOf ns) t.kids[0] := ⟨_, rfl⟩
  rw [← hx] at HT hlx C ⊢
  clear hx
  rw [hk] at hkind
  clear hn hN hd hbs HB0 HA hk ih hlen h1k C23 HT h0k
  obtain ⟨dk, dsA, dsn, dsc, dkA, dkn, dkc, dnum, dleast, dmost, dway, dfold⟩ := d
  unfold ND.agg
  unfold ND.box at hW
  simp only at hW HXW HNX HD hkind HK hkc hkm C h0d ⊢
  obtain ⟨v0, v1, v2, v3, v4, v5, v6, v7, v8⟩ := HXW.out
  subst hkind
  have hB3 := Below.alloc (Below.refl W.heap.size W) (Nat.le_refl _) (.cells #[.string ⟨#[]⟩, .string ⟨#[]⟩, .string ⟨#[63, 62]⟩, .string ⟨#[63, 61]⟩, .string ⟨#[63, 33]⟩, .string ⟨#[63, 60, 61]⟩, .string ⟨#[63, 60, 33]⟩] 9)
  have hx3 := HXW.out.next hB3
  have hq0 : (W.alloc (.cells #[.string ⟨#[]⟩, .string ⟨#[]⟩, .string ⟨#[63, 62]⟩, .string ⟨#[63, 61]⟩, .string ⟨#[63, 33]⟩, .string ⟨#[63, 60, 61]⟩, .string ⟨#[63, 60, 33]⟩] 9)).cell? ⟨w.heap.size + 1, 0, none⟩ = some (.slice nA nn nc) := by rw [hB3.cell (p := ⟨w.heap.size + 1, 0, none⟩) (by have := HWS.out; show w.heap.size + 1 < _; omega)]; exact n0
  have HB3 := Lib.hid hB3
  have HQ0 := Lib.hid hq0
  have HX3 := Lib.hid hx3
  clear hB3 hq0 hx3
  go_enter Tryd.func10, Tryd.ntmps10
  go_upto_region 1 with (fail)
  rw [← hW]
  clear hW
  by_cases h0 : nn = 0
  all_goals
    go_upto_region 42 with (fail)
    generalize hW3 : W.alloc (.cells #[.string ⟨#[]⟩, .string ⟨#[]⟩, .string ⟨#[63, 62]⟩, .string ⟨#[63, 61]⟩, .string ⟨#[63, 33]⟩, .string ⟨#[63, 60, 61]⟩, .string ⟨#[63, 60, 33]⟩] 9) = W3 at *
    clear hW3 v0 v1 v2 v3 v4 v5 v6 v7 v8 n0
    obtain ⟨v0, v1, v2, v3, v4, v5, v6, v7, v8⟩ := HX3.out
    have n0 := HQ0.out
    have g1 : ¬ 9223372036854775807 < 3 + x.length := by omega
    have g2 : ¬ 9223372036854775807 < 3 + x.length + 1 := by omega
    have CW := Lib.hid (C.out W3 HB3.out)
    have HBA := Lib.hid (show (⟨#[40, 63, 33]⟩ : ByteArray) ++ ⟨x.toArray⟩ ++ ⟨#[41]⟩ = ⟨(([40] : List UInt8) ++ ([63, 33] : List UInt8) ++ x ++ [41]).toArray⟩ by apply ByteArray.ext; simp)
    go_wp2_with fail
    go_loopw [6, 11] (fun s i wr => s = .string ⟨#[63, 33]⟩ ∧ i = .int .i64 0 ∧ W3 = wr) (fun _ _ _ => 0)
    case atStart => exact ⟨rfl, rfl, rfl⟩
    case round =>
      obtain ⟨rfl, rfl, rfl⟩ := hrel
      first
        | (subst h0
           go_wp2_with (go_at_call 23; refine CW.out.mono ?_; rintro e w4 ⟨rfl, hb⟩; have HB4 := Lib.hid (below_next HB3.out hb); clear hb)
           go_ret
           exact ⟨ret_str HBA.out, below_next HBW.out HB4.out⟩)
        | (have h1 : 0 < nn := by omega
           clear h0
           go_wp2_with (go_at_call 23; refine CW.out.mono ?_; rintro e w4 ⟨rfl, hb⟩; have HB4 := Lib.hid (below_next HB3.out hb); clear hb)
           go_ret
           exact ⟨ret_str HBA.out, below_next HBW.out HB4.out⟩)
set_option maxRecDepth 100000 in
set_option maxHeartbeats 8000000 in
theorem ref_grp_16 (ns : List (ByteArray × Int)) (t : Tr) (ih : ∀ k ∈ t.kids, Law10 ns k) (hlen : ∀ k ∈ t.kids, (showT (nmOf ns) k).length ≤ 9000000) (hk : t.kind = 16) (h1k : t.kids.length = 1) : Law10 ns t := by
  intro d nA nn nc w hn hN
  have hmf := fun_run
  have hbs := ND.box_size w d
  have HB0 := Lib.hid (ND.box_below w d)
  obtain ⟨W, hW⟩ : ∃ W, W = (d.box w).alloc (.cells #[.slice nA nn nc] 26) := ⟨_, rfl⟩
  have HA := Lib.hid (show Below (d.box w).heap.size (d.box w) W by rw [hW]; exact (Below.refl _ _).alloc (Nat.le_refl _) _)
  have HBW := Lib.hid (below_next HB0.out HA.out)
  have HXW := Lib.hid ((BoxN.new w d).next HA.out)
  have HNX := Lib.hid (hn.next HBW.out)
  have HNN := Lib.hid (hN.next HBW.out)
  have n0 : W.cell? ⟨w.heap.size + 1, 0, none⟩ = some (.slice nA nn nc) := by rw [hW, ← hbs, Lib.cell_of_heap (heap_alloc_new (d.box w) _)]; rfl
  have HWS := Lib.hid (show W.heap.size = w.heap.size + 2 by rw [hW]; simp [hbs])
  obtain ⟨ds, hd⟩ := hn.of
  have HD := Lib.hid hd
  have hkind := hd.kind
  have HK := Lib.hid hd.knum
  have hkc := hd.kc1
  have hkm := hd.kc2
  unfold maxLen at hkm
  have C23 := Lib.hid (fun (wq : World) (hb : Below W.heap.size W wq) (k : Nat) (hk : k < d.kn) (hk1 : k < t.kids.length) (wrap : Bool) => kid_call ns t ih hlen w W wq d ds nA nn nc hd HBW.out hb HXW.out n0 HNN.out (by have := HWS.out; omega) k hk hk1 wrap)
  unfold Says10 at C23
  have h0k : 0 < t.kids.length := by omega
  have h0d : 0 < d.kn := by have := hd.knum.1; omega
  have HT := Lib.hid (show showT (nmOf ns) t = ([40] : List UInt8) ++ ([63, 60, 61] : List UInt8) ++ showT (nmOf ns) t.kids[0] ++ [41] by
    rw [showT_eq]; unfold showK; rw [if_neg (by omega), if_neg (by omega), if_neg (by omega), if_neg (by omega), if_neg (by omega), if_neg (by omega), if_pos (by omega), headT_one (nmOf ns) t.kids h1k h0k, hk]; rfl)
  rw [HT.out]
  have hlx := hlen t.kids[0] (List.getElem_mem h0k)
  have C := Lib.hid (fun (wq : World) (hb : Below W.heap.size W wq) => C23.out wq hb 0 h0d h0k false)
  unfold wrapT at C
  simp only [Bool.false_eq_true, if_false] at C
  obtain ⟨x, hx⟩ : ∃ x, x = showT (nmOf ns) t.kids[0] := ⟨_, rfl⟩
  rw [← hx] at HT hlx C ⊢
  clear hx
  rw [hk] at hkind
  clear hn hN hd hbs HB0 HA hk ih hlen h1k C23 HT h0k
  obtain ⟨dk, dsA, dsn, dsc, dkA, dkn, dkc, dnum, dleast, dmost, dway, dfold⟩ := d
  unfold ND.agg
  unfold ND.box at hW
  simp only at hW HXW HNX HD hkind HK hkc hkm C h0d ⊢
  obtain ⟨v0, v1, v2, v3, v4, v5, v6, v7, v8⟩ := HXW.out
  subst hkind
  have hB3 := Below.alloc (Below.refl W.heap.size W) (Nat.le_refl _) (.cells #[.string ⟨#[]⟩, .string ⟨#[]⟩, .string ⟨#[63, 62]⟩, .string ⟨#[63, 61]⟩, .string ⟨#[63, 33]⟩, .string ⟨#[63, 60, 61]⟩, .string ⟨#[63, 60, 33]⟩] 9)
  have hx3 := HXW.out.next hB3
  have hq0 : (W.alloc (.cells #[.string ⟨#[]⟩, .string ⟨#[]⟩, .string ⟨#[63, 62]⟩, .string ⟨#[63, 61]⟩, .string ⟨#[63, 33]⟩, .string ⟨#[63, 60, 61]⟩, .string ⟨#[63, 60, 33]⟩] 9)).cell? ⟨w.heap.size + 1, 0, none⟩ = some (.slice nA nn nc) := by rw [hB3.cell (p := ⟨w.heap.size + 1, 0, none⟩) (by have := HWS.out; show w.heap.size + 1 < _; omega)]; exact n0
  have HB3 := Lib.hid hB3
  have HQ0 := Lib.hid hq0
  have HX3 := Lib.hid hx3
  clear hB3 hq0 hx3
  go_enter Tryd.func10, Tryd.ntmps10
  go_upto_region 1 with (fail)
  rw [← hW]
  clear hW
  by_cases h0 : nn = 0
  all_goals
    go_upto_region 42 with (fail)
    generalize hW3 : W.alloc (.cells #[.string ⟨#[]⟩, .string ⟨#[]⟩, .string ⟨#[63, 62]⟩, .string ⟨#[63, 61]⟩, .string ⟨#[63, 33]⟩, .string ⟨#[63, 60, 61]⟩, .string ⟨#[63, 60, 33]⟩] 9) = W3 at *
    clear hW3 v0 v1 v2 v3 v4 v5 v6 v7 v8 n0
    obtain ⟨v0, v1, v2, v3, v4, v5, v6, v7, v8⟩ := HX3.out
    have n0 := HQ0.out
    have g1 : ¬ 9223372036854775807 < 4 + x.length := by omega
    have g2 : ¬ 9223372036854775807 < 4 + x.length + 1 := by omega
    have CW := Lib.hid (C.out W3 HB3.out)
    have HBA := Lib.hid (show (⟨#[40, 63, 60, 61]⟩ : ByteArray) ++ ⟨x.toArray⟩ ++ ⟨#[41]⟩ = ⟨(([40] : List UInt8) ++ ([63, 60, 61] : List UInt8) ++ x ++ [41]).toArray⟩ by apply ByteArray.ext; simp)
    go_wp2_with fail
    go_loopw [6, 11] (fun s i wr => s = .string ⟨#[63, 60, 61]⟩ ∧ i = .int .i64 0 ∧ W3 = wr) (fun _ _ _ => 0)
    case atStart => exact ⟨rfl, rfl, rfl⟩
    case round =>
      obtain ⟨rfl, rfl, rfl⟩ := hrel
      first
        | (subst h0
           go_wp2_with (go_at_call 23; refine CW.out.mono ?_; rintro e w4 ⟨rfl, hb⟩; have HB4 := Lib.hid (below_next HB3.out hb); clear hb)
           go_ret
           exact ⟨ret_str HBA.out, below_next HBW.out HB4.out⟩)
        | (have h1 : 0 < nn := by omega
           clear h0
           go_wp2_with (go_at_call 23; refine CW.out.mono ?_; rintro e w4 ⟨rfl, hb⟩; have HB4 := Lib.hid (below_next HB3.out hb); clear hb)
           go_ret
           exact ⟨ret_str HBA.out, below_next HBW.out HB4.out⟩)
set_option maxRecDepth 100000 in
set_option maxHeartbeats 8000000 in
theorem ref_grp_17 (ns : List (ByteArray × Int)) (t : Tr) (ih : ∀ k ∈ t.kids, Law10 ns k) (hlen : ∀ k ∈ t.kids, (showT (nmOf ns) k).length ≤ 9000000) (hk : t.kind = 17) (h1k : t.kids.length = 1) : Law10 ns t := by
  intro d nA nn nc w hn hN
  have hmf := fun_run
  have hbs := ND.box_size w d
  have HB0 := Lib.hid (ND.box_below w d)
  obtain ⟨W, hW⟩ : ∃ W, W = (d.box w).alloc (.cells #[.slice nA nn nc] 26) := ⟨_, rfl⟩
  have HA := Lib.hid (show Below (d.box w).heap.size (d.box w) W by rw [hW]; exact (Below.refl _ _).alloc (Nat.le_refl _) _)
  have HBW := Lib.hid (below_next HB0.out HA.out)
  have HXW := Lib.hid ((BoxN.new w d).next HA.out)
  have HNX := Lib.hid (hn.next HBW.out)
  have HNN := Lib.hid (hN.next HBW.out)
  have n0 : W.cell? ⟨w.heap.size + 1, 0, none⟩ = some (.slice nA nn nc) := by rw [hW, ← hbs, Lib.cell_of_heap (heap_alloc_new (d.box w) _)]; rfl
  have HWS := Lib.hid (show W.heap.size = w.heap.size + 2 by rw [hW]; simp [hbs])
  obtain ⟨ds, hd⟩ := hn.of
  have HD := Lib.hid hd
  have hkind := hd.kind
  have HK := Lib.hid hd.knum
  have hkc := hd.kc1
  have hkm := hd.kc2
  unfold maxLen at hkm
  have C23 := Lib.hid (fun (wq : World) (hb : Below W.heap.size W wq) (k : Nat) (hk : k < d.kn) (hk1 : k < t.kids.length) (wrap : Bool) => kid_call ns t ih hlen w W wq d ds nA nn nc hd HBW.out hb HXW.out n0 HNN.out (by have := HWS.out; omega) k hk hk1 wrap)
  unfold Says10 at C23
  have h0k : 0 < t.kids.length := by omega
  have h0d : 0 < d.kn := by have := hd.knum.1; omega
  have HT := Lib.hid (show showT (nmOf ns) t = ([40] : List UInt8) ++ ([63, 60, 33] : List UInt8) ++ showT (nmOf ns) t.kids[0] ++ [41] by
    rw [showT_eq]; unfold showK; rw [if_neg (by omega), if_neg (by omega), if_neg (by omega), if_neg (by omega), if_neg (by omega), if_neg (by omega), if_pos (by omega), headT_one (nmOf ns) t.kids h1k h0k, hk]; rfl)
  rw [HT.out]
  have hlx := hlen t.kids[0] (List.getElem_mem h0k)
  have C := Lib.hid (fun (wq : World) (hb : Below W.heap.size W wq) => C23.out wq hb 0 h0d h0k false)
  unfold wrapT at C
  simp only [Bool.false_eq_true, if_false] at C
  obtain ⟨x, hx⟩ : ∃ x, x = showT (nmOf ns) t.kids[0] := ⟨_, rfl⟩
  rw [← hx] at HT hlx C ⊢
  clear hx
  rw [hk] at hkind
  clear hn hN hd hbs HB0 HA hk ih hlen h1k C23 HT h0k
  obtain ⟨dk, dsA, dsn, dsc, dkA, dkn, dkc, dnum, dleast, dmost, dway, dfold⟩ := d
  unfold ND.agg
  unfold ND.box at hW
  simp only at hW HXW HNX HD hkind HK hkc hkm C h0d ⊢
  obtain ⟨v0, v1, v2, v3, v4, v5, v6, v7, v8⟩ := HXW.out
  subst hkind
  have hB3 := Below.alloc (Below.refl W.heap.size W) (Nat.le_refl _) (.cells #[.string ⟨#[]⟩, .string ⟨#[]⟩, .string ⟨#[63, 62]⟩, .string ⟨#[63, 61]⟩, .string ⟨#[63, 33]⟩, .string ⟨#[63, 60, 61]⟩, .string ⟨#[63, 60, 33]⟩] 9)
  have hx3 := HXW.out.next hB3
  have hq0 : (W.alloc (.cells #[.string ⟨#[]⟩, .string ⟨#[]⟩, .string ⟨#[63, 62]⟩, .string ⟨#[63, 61]⟩, .string ⟨#[63, 33]⟩, .string ⟨#[63, 60, 61]⟩, .string ⟨#[63, 60, 33]⟩] 9)).cell? ⟨w.heap.size + 1, 0, none⟩ = some (.slice nA nn nc) := by rw [hB3.cell (p := ⟨w.heap.size + 1, 0, none⟩) (by have := HWS.out; show w.heap.size + 1 < _; omega)]; exact n0
  have HB3 := Lib.hid hB3
  have HQ0 := Lib.hid hq0
  have HX3 := Lib.hid hx3
  clear hB3 hq0 hx3
  go_enter Tryd.func10, Tryd.ntmps10
  go_upto_region 1 with (fail)
  rw [← hW]
  clear hW
  by_cases h0 : nn = 0
  all_goals
    go_upto_region 42 with (fail)
    generalize hW3 : W.alloc (.cells #[.string ⟨#[]⟩, .string ⟨#[]⟩, .string ⟨#[63, 62]⟩, .string ⟨#[63, 61]⟩, .string ⟨#[63, 33]⟩, .string ⟨#[63, 60, 61]⟩, .string ⟨#[63, 60, 33]⟩] 9) = W3 at *
    clear hW3 v0 v1 v2 v3 v4 v5 v6 v7 v8 n0
    obtain ⟨v0, v1, v2, v3, v4, v5, v6, v7, v8⟩ := HX3.out
    have n0 := HQ0.out
    have g1 : ¬ 9223372036854775807 < 4 + x.length := by omega
    have g2 : ¬ 9223372036854775807 < 4 + x.length + 1 := by omega
    have CW := Lib.hid (C.out W3 HB3.out)
    have HBA := Lib.hid (show (⟨#[40, 63, 60, 33]⟩ : ByteArray) ++ ⟨x.toArray⟩ ++ ⟨#[41]⟩ = ⟨(([40] : List UInt8) ++ ([63, 60, 33] : List UInt8) ++ x ++ [41]).toArray⟩ by apply ByteArray.ext; simp)
    go_wp2_with fail
    go_loopw [6, 11] (fun s i wr => s = .string ⟨#[63, 60, 33]⟩ ∧ i = .int .i64 0 ∧ W3 = wr) (fun _ _ _ => 0)
    case atStart => exact ⟨rfl, rfl, rfl⟩
    case round =>
      obtain ⟨rfl, rfl, rfl⟩ := hrel
      first
        | (subst h0
           go_wp2_with (go_at_call 23; refine CW.out.mono ?_; rintro e w4 ⟨rfl, hb⟩; have HB4 := Lib.hid (below_next HB3.out hb); clear hb)
           go_ret
           exact ⟨ret_str HBA.out, below_next HBW.out HB4.out⟩)
        | (have h1 : 0 < nn := by omega
           clear h0
           go_wp2_with (go_at_call 23; refine CW.out.mono ?_; rintro e w4 ⟨rfl, hb⟩; have HB4 := Lib.hid (below_next HB3.out hb); clear hb)
           go_ret
           exact ⟨ret_str HBA.out, below_next HBW.out HB4.out⟩)
theorem node10 (ns : List (ByteArray × Int)) (hns : ∀ x ∈ ns, x.1.data.toList ≠ [] ∧ x.1.size ≤ 20) (t : Tr) (h : Good t) (hs : sizeT t ≤ 1000) : Law10 ns t := by
  refine tree_ind (P := fun t => Good t → sizeT t ≤ 1000 → Law10 ns t) (fun t ih h hs => ?_) t h hs
  have ih' : ∀ k ∈ t.kids, Law10 ns k := fun k hk => ih k hk (h.kid hk) (by have := sizeT_kid hk; omega)
  have hlen : ∀ k ∈ t.kids, (showT (nmOf ns) k).length ≤ 9000000 := fun k hk => by
    have := showT_len (nmOf ns) (nmOf_len hns) k (h.kid hk).well
    have := sizeT_kid hk
    omega
  have hlt : (showT (nmOf ns) t).length ≤ 9000000 := by
    have := showT_len (nmOf ns) (nmOf_len hns) t h.well
    omega
  obtain ⟨hr, h18, h11⟩ := h t (by rw [flatT_eq]; simp)
  obtain ⟨k1, k2, _, _, hset⟩ := right_kind hr
  by_cases e1 : t.kind = 1
  · exact ref_empty ns t e1
  by_cases e2 : t.kind = 2
  · by_cases e : t.set = []
    · exact ref_set0 ns t e2 e
    · exact ref_set ns t e2 e (hset e2)
  by_cases e3 : t.kind ≤ 8
  · exact ref_leaf ns t (by omega)
  by_cases e9 : t.kind = 9
  · exact ref_row ns t ih' hlen hlt e9
  by_cases e10 : t.kind = 10
  · exact ref_either ns t ih' hlen hlt e10
  by_cases e12 : t.kind = 12
  · have hb := rightE_rep hr e12
    exact ref_repeat ns t ih' hlen e12 (one_kid hr (by omega)) ⟨hb.1, hb.2.1⟩ hb.2.2 (rep_way hr e12)
  by_cases e18 : t.kind = 18
  · cases hf : t.fold
    · exact ref_again_false ns t e18 (h18 e18) hf
    · exact ref_again_true ns t e18 (h18 e18) hf
  have h1 := one_kid hr (by omega)
  by_cases e11 : t.kind = 11
  · exact ref_grp_11 ns t ih' hlen e11 h1 (by have := h11 e11; omega)
  by_cases e13 : t.kind = 13
  · exact ref_grp_13 ns t ih' hlen e13 h1
  by_cases e14 : t.kind = 14
  · exact ref_grp_14 ns t ih' hlen e14 h1
  by_cases e15 : t.kind = 15
  · exact ref_grp_15 ns t ih' hlen e15 h1
  by_cases e16 : t.kind = 16
  · exact ref_grp_16 ns t ih' hlen e16 h1
  exact ref_grp_17 ns t ih' hlen (by omega) h1
end Go.Proofs.YtbekjfoefjnidaaDoor
namespace Go.Proofs.YtbekjfoefjnidaaDoor
open Go.RowKit
set_option linter.unusedVariables false
set_option maxRecDepth 100000 in
set_option maxHeartbeats 8000000 in
theorem lawShowShows (t : Tr) (d : ND) (gr : Int) (nA : Option Addr) (nn nc : Nat) (ns : List (ByteArray × Int)) (w : World) (ht : Tabs w) (hn : NodeAt w w.heap.size t d) (hsm : Small t) (hl : NamesAt w w.heap.size nA nn ns) (hnc : nn ≤ nc) (hcm : nc ≤ maxLen) (hnm : nn < maxLen) (htx : ∀ x ∈ ns, x.1.size ≤ 100000000) :
    Calls Tryd.prog 4 #[patV d gr nA nn nc] w fun e w' => e = .returned (.bool true) ∧ Below w.heap.size w w' := by
  have HP := Lib.hid (PatN.new w d gr nA nn nc)
  have HB := Lib.hid (patB_below w d gr nA nn nc)
  have C9 := Lib.hid (fun (w1 : World) (h : Below w.heap.size w w1) => show9 t d gr nA nn nc ns w1 (ht.next h) (NodeAt.map (fun r => (r.below h (Nat.le_refl _)).more h.size) _ _ hn) ((hl.below h (Nat.le_refl _)).more h.size) hnc hcm hnm)
  have C8 := Lib.hid (fun (w1 : World) (h : Below w.heap.size w w1) => check22 t d gr nA nn nc ns w1 (NodeAt.map (fun r => (r.below h (Nat.le_refl _)).more h.size) _ _ hn) hsm ((hl.below h (Nat.le_refl _)).more h.size) hnc hcm hnm htx)
  by_cases hp : patE t gr ns = 0
  · obtain ⟨hg, hns⟩ := patE_good hp
    have C10 := Lib.hid (fun (w1 : World) (h : Below w.heap.size w w1) => node10 ns hns t hg.1 hg.2 d nA nn nc w1 (NodeAt.map (fun r => (r.below h (Nat.le_refl _)).more h.size) _ _ hn) ⟨(hl.below h (Nat.le_refl _)).more h.size, hnc, hcm, hns⟩)
    unfold Says10 at C10
    have HS : showP t gr ns = showT (nmOf ns) t := by unfold showP; rw [if_pos hp]
    rw [hp, HS] at C9
    rw [hp] at C8
    obtain ⟨x, hx⟩ : ∃ x, x = showT (nmOf ns) t := ⟨_, rfl⟩
    rw [← hx] at C9 C10
    clear hx HS hp hg hns hn hl hsm htx ht
    obtain ⟨dk, dsA, dsn, dsc, dkA, dkn, dkc, dnum, dleast, dmost, dway, dfold⟩ := d
    unfold patV at C9 C8 ⊢
    unfold ND.agg at C10
    unfold patB at HP HB
    simp only at HP HB C9 C8 C10 ⊢
    obtain ⟨⟨x0, x1, x2, x3, x4, x5, x6, x7, x8⟩, x9, x10⟩ := HP.out
    go_enter Tryd.func4, Tryd.ntmps4
    go_wp2_with (first
      | (go_at_call 9; refine (C9.out _ HB.out).mono ?_; rintro en w1 ⟨rfl, hb⟩; have HB1 := Lib.hid (below_next HB.out hb); have HP1 := Lib.hid (HP.out.next hb); obtain ⟨⟨y0, y1, y2, y3, y4, y5, y6, y7, y8⟩, y9, y10⟩ := HP1.out; clear hb)
      | (go_at_call 8; refine (C8.out _ HB1.out).mono ?_; rintro en w2 ⟨rfl, hb⟩; have HB2 := Lib.hid (below_next HB1.out hb); have HP2 := Lib.hid (HP1.out.next hb); obtain ⟨⟨z0, z1, z2, z3, z4, z5, z6, z7, z8⟩, z9, z10⟩ := HP2.out; clear hb)
      | (go_at_call 10; refine (C10.out _ HB2.out).mono ?_; rintro en w3 ⟨rfl, hb⟩; have HB3 := Lib.hid (below_next HB2.out hb); clear hb)
      | (go_at_call 6; refine (begun6 _).mono ?_; rintro en w4 ⟨rfl, hb⟩; have HB4 := Lib.hid (below_next HB3.out hb); clear hb))
    go_ret
    exact ⟨ret_bool (by simp), HB4.out⟩
  · have HS : showP t gr ns = [] := by unfold showP; rw [if_neg hp]
    rw [HS] at C9
    obtain ⟨er, her⟩ : ∃ x, x = patE t gr ns := ⟨_, rfl⟩
    rw [← her] at C9 C8 hp
    clear her HS hn hl hsm htx ht
    obtain ⟨dk, dsA, dsn, dsc, dkA, dkn, dkc, dnum, dleast, dmost, dway, dfold⟩ := d
    unfold patV at C9 C8 ⊢
    unfold patB at HP HB
    simp only at HP HB C9 C8 ⊢
    have e1 : (er == 0) = false := by simpa using hp
    obtain ⟨⟨x0, x1, x2, x3, x4, x5, x6, x7, x8⟩, x9, x10⟩ := HP.out
    go_enter Tryd.func4, Tryd.ntmps4
    go_wp2_with (first
      | (go_at_call 9; refine (C9.out _ HB.out).mono ?_; rintro en w1 ⟨rfl, hb⟩; have HB1 := Lib.hid (below_next HB.out hb); have HP1 := Lib.hid (HP.out.next hb); obtain ⟨⟨y0, y1, y2, y3, y4, y5, y6, y7, y8⟩, y9, y10⟩ := HP1.out; clear hb)
      | (go_at_call 8; refine (C8.out _ HB1.out).mono ?_; rintro en w2 ⟨rfl, hb⟩; have HB2 := Lib.hid (below_next HB1.out hb); clear hb)
      | (go_at_call 6; refine (begun6 _).mono ?_; rintro en w4 ⟨rfl, hb⟩; have HB4 := Lib.hid (below_next HB2.out hb); clear hb))
    go_ret
    exact ⟨ret_bool (by simp), HB4.out⟩
end Go.Proofs.YtbekjfoefjnidaaDoor
namespace Go.Proofs.YtbekjfoefjnidaaDoor
open Go.RowKit
set_option linter.unusedVariables false
def tab64 : List Int := [0, 1, 56, 2, 57, 49, 28, 3, 61, 58, 42, 50, 38, 29, 17, 4, 62, 47, 59, 36, 45, 43, 51, 22, 53, 39, 33, 30, 24, 18, 12, 5, 63, 55, 48, 27, 60, 41, 37, 16, 46, 35, 44, 21, 52, 32, 23, 11, 54, 26, 40, 15, 34, 20, 31, 10, 25, 14, 19, 9, 13, 8, 7, 6]
theorem tabs_of_laid {W : World} (h : laidMet Tryd.prog Rows.showShowsUptoRow.laid W) : Tabs W := by
  have h1 : laidMet Tryd.prog (("math/bits.deBruijn64tab", Lib.tabData .u8 tab64) :: ("internal/strconv.uint64pow10", Lib.tabData .u64 Lib.pow10Tab) :: []) W := laidMet.tail h
  have h2 : laidMet Tryd.prog (("internal/strconv.uint64pow10", Lib.tabData .u64 Lib.pow10Tab) :: []) W := laidMet.tail h1
  have t1 := Lib.tabIs_of_head (g := 2) (t := 107) (e := 5) (n := 64) (by kernel_rfl) (by kernel_rfl) Tryd.underlying107 Tryd.underlying5 (by kernel_rfl) (by kernel_rfl) h1
  have t2 := Lib.tabIs_of_head (g := 0) (t := 100) (e := 92) (n := 20) (by kernel_rfl) (by kernel_rfl) Tryd.underlying100 Tryd.underlying92 (by kernel_rfl) (by kernel_rfl) h2
  have c := t1.cell (g := 2) (by kernel_rfl) 15 (by decide)
  exact ⟨⟨c, World.block_lt_of_cell? W _ c⟩, t2⟩
end Go.Proofs.YtbekjfoefjnidaaDoor
