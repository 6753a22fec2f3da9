/-
  ShowNode of the reference: its closure, and kinds without kids: walked. ShowNode of the reference, kind by kind: walked.
-/
import Derived.Test.YtbekjfoefjnidaaDoorShG3
import Derived.Test.YtbekjfoefjnidaaDoorShG1
import Derived.Deep.RegionHeld3
import Derived.Test.YtbekjfoefjnidaaDoorShG2
namespace Go.Proofs.YtbekjfoefjnidaaDoor
open Go.RowKit
set_option linter.unusedVariables false
def NamesK (w : World) (nA : Option Addr) (nn nc : Nat) (ns : List (ByteArray × Int)) : Prop := NamesAt w w.heap.size nA nn ns ∧ nn ≤ nc ∧ nc ≤ maxLen ∧ ∀ x ∈ ns, x.1.data.toList ≠ [] ∧ x.1.size ≤ 20
theorem NamesK.next {w w' : World} {nA : Option Addr} {nn nc : Nat} {ns : List (ByteArray × Int)} (h : NamesK w nA nn nc ns) (hb : Below w.heap.size w w') : NamesK w' nA nn nc ns := ⟨(h.1.below hb (Nat.le_refl _)).more hb.size, h.2⟩
def Says10 (x : List UInt8) (w : World) (e : Ending) (w' : World) : Prop := e = .returned (.string ⟨x.toArray⟩) ∧ Below w.heap.size w w'
def Law10 (ns : List (ByteArray × Int)) (t : Tr) : Prop := ∀ (d : ND) (nA : Option Addr) (nn nc : Nat) (w : World), NodeAt w w.heap.size t d → NamesK w nA nn nc ns → Calls Tryd.prog 10 #[d.agg, .slice nA nn nc] w (Says10 (showT (nmOf ns) t) w)
theorem wrap_ba (x : List UInt8) : (⟨#[40, 63, 58]⟩ : ByteArray) ++ ⟨x.toArray⟩ ++ ⟨#[41]⟩ = ⟨(wrapT true x).toArray⟩ := by
  apply ByteArray.ext
  simp [wrapT]
set_option maxRecDepth 100000 in
set_option maxHeartbeats 4000000 in
theorem kid23 (ns : List (ByteArray × Int)) (k0 : Tr) (H : Law10 ns k0) (hlen : (showT (nmOf ns) k0).length ≤ 9000000) (d0 : ND) (i pn pm kb ko kn kc : Nat) (wrap : Bool) (nA : Option Addr) (nn nc : Nat) (w : World)
    (hi : i < kn) (hkn : kn ≤ 9223372036854775807) (hn : NodeAt w w.heap.size k0 d0) (hN : NamesK w nA nn nc ns)
    (y2 : w.cell? ⟨pn, 2, none⟩ = some (.slice (some ⟨kb, ko, none⟩) kn kc)) (y0 : w.cell? ⟨pm, 0, none⟩ = some (.slice nA nn nc))
    (c0 : w.cell? ⟨kb, ko + i * 8, none⟩ = some (.int .i64 d0.kind)) (c1 : w.cell? ⟨kb, ko + i * 8 + 1, none⟩ = some (.slice d0.sA d0.sn d0.sc)) (c2 : w.cell? ⟨kb, ko + i * 8 + 2, none⟩ = some (.slice d0.kA d0.kn d0.kc))
    (c3 : w.cell? ⟨kb, ko + i * 8 + 3, none⟩ = some (.int .i64 d0.num)) (c4 : w.cell? ⟨kb, ko + i * 8 + 4, none⟩ = some (.int .i64 d0.least)) (c5 : w.cell? ⟨kb, ko + i * 8 + 5, none⟩ = some (.int .i64 d0.most)) (c6 : w.cell? ⟨kb, ko + i * 8 + 6, none⟩ = some (.int .i64 d0.way)) (c7 : w.cell? ⟨kb, ko + i * 8 + 7, none⟩ = some (.bool d0.fold)) :
    Calls Tryd.prog 23 #[.int .i64 i, .bool wrap, .pointer (some ⟨pn, 0, none⟩), .pointer (some ⟨pm, 0, none⟩)] w (Says10 (wrapT wrap (showT (nmOf ns) k0)) w) := by
  have hd0 : Below w.heap.size w w.drew := Below.drew (Below.refl _ _)
  have C := Lib.hid (H d0 nA nn nc w.drew (hn.next hd0) (hN.next hd0))
  have hd0 := Lib.hid hd0
  have eW := wrap_ba (showT (nmOf ns) k0)
  clear H hn hN
  obtain ⟨ek, esA, esn, esc, ekA, ekn, ekc, enum, eleast, emost, eway, efold⟩ := d0
  unfold ND.agg at C
  simp only at C c0 c1 c2 c3 c4 c5 c6 c7
  obtain ⟨x, hx⟩ : ∃ x, x = showT (nmOf ns) k0 := ⟨_, rfl⟩
  rw [← hx] at C hlen eW ⊢
  clear hx
  have g1 : ¬ 9223372036854775807 < 3 + x.length := by omega
  have g2 : ¬ 9223372036854775807 < 3 + x.length + 1 := by omega
  have HZK := Lib.hid (fun (w' : World) (hb : Below w.heap.size w w') => (⟨by rw [hb.cell (p := ⟨pn, 2, none⟩) (World.block_lt_of_cell? w _ y2)]; exact y2, by rw [hb.cell (p := ⟨pm, 0, none⟩) (World.block_lt_of_cell? w _ y0)]; exact y0, by rw [hb.cell (p := ⟨kb, ko + i * 8, none⟩) (World.block_lt_of_cell? w _ c0)]; exact c0, by rw [hb.cell (p := ⟨kb, ko + i * 8 + 1, none⟩) (World.block_lt_of_cell? w _ c1)]; exact c1, by rw [hb.cell (p := ⟨kb, ko + i * 8 + 2, none⟩) (World.block_lt_of_cell? w _ c2)]; exact c2, by rw [hb.cell (p := ⟨kb, ko + i * 8 + 3, none⟩) (World.block_lt_of_cell? w _ c3)]; exact c3, by rw [hb.cell (p := ⟨kb, ko + i * 8 + 4, none⟩) (World.block_lt_of_cell? w _ c4)]; exact c4, by rw [hb.cell (p := ⟨kb, ko + i * 8 + 5, none⟩) (World.block_lt_of_cell? w _ c5)]; exact c5, by rw [hb.cell (p := ⟨kb, ko + i * 8 + 6, none⟩) (World.block_lt_of_cell? w _ c6)]; exact c6, by rw [hb.cell (p := ⟨kb, ko + i * 8 + 7, none⟩) (World.block_lt_of_cell? w _ c7)]; exact c7⟩ : w'.cell? ⟨pn, 2, none⟩ = some (.slice (some ⟨kb, ko, none⟩) kn kc) ∧ w'.cell? ⟨pm, 0, none⟩ = some (.slice nA nn nc) ∧ w'.cell? ⟨kb, ko + i * 8, none⟩ = some (.int .i64 ek) ∧ w'.cell? ⟨kb, ko + i * 8 + 1, none⟩ = some (.slice esA esn esc) ∧ w'.cell? ⟨kb, ko + i * 8 + 2, none⟩ = some (.slice ekA ekn ekc) ∧ w'.cell? ⟨kb, ko + i * 8 + 3, none⟩ = some (.int .i64 enum) ∧ w'.cell? ⟨kb, ko + i * 8 + 4, none⟩ = some (.int .i64 eleast) ∧ w'.cell? ⟨kb, ko + i * 8 + 5, none⟩ = some (.int .i64 emost) ∧ w'.cell? ⟨kb, ko + i * 8 + 6, none⟩ = some (.int .i64 eway) ∧ w'.cell? ⟨kb, ko + i * 8 + 7, none⟩ = some (.bool efold)))
  go_enter Tryd.func23, Tryd.ntmps23
  go_upto_region 1 with (fail)
  go_region_held3 (fun w' => w'.cell? ⟨pn, 2, none⟩ = some (.slice (some ⟨kb, ko, none⟩) kn kc) ∧ w'.cell? ⟨pm, 0, none⟩ = some (.slice nA nn nc) ∧ w'.cell? ⟨kb, ko + i * 8, none⟩ = some (.int .i64 ek) ∧ w'.cell? ⟨kb, ko + i * 8 + 1, none⟩ = some (.slice esA esn esc) ∧ w'.cell? ⟨kb, ko + i * 8 + 2, none⟩ = some (.slice ekA ekn ekc) ∧ w'.cell? ⟨kb, ko + i * 8 + 3, none⟩ = some (.int .i64 enum) ∧ w'.cell? ⟨kb, ko + i * 8 + 4, none⟩ = some (.int .i64 eleast) ∧ w'.cell? ⟨kb, ko + i * 8 + 5, none⟩ = some (.int .i64 emost) ∧ w'.cell? ⟨kb, ko + i * 8 + 6, none⟩ = some (.int .i64 eway) ∧ w'.cell? ⟨kb, ko + i * 8 + 7, none⟩ = some (.bool efold))
    (first | exact ⟨y2, y0, c0, c1, c2, c3, c4, c5, c6, c7⟩ | exact HZ.out | (trace_state; fail))
    (first
      | (go_at_call 10; refine C.out.mono ?_; rintro en w1 ⟨rfl, hb⟩; have HB1 := Lib.hid (below_next hd0.out hb); have HZ := Lib.hid (HZK.out _ (below_next hd0.out hb)); clear hb))
  all_goals
    cases wrap
    · go_wp2_with fail
      go_ret
      exact ⟨rfl, HB1.out⟩
    · go_wp2_with fail
      go_ret
      exact ⟨rfl, HB1.out⟩
end Go.Proofs.YtbekjfoefjnidaaDoor
namespace Go.Proofs.YtbekjfoefjnidaaDoor
open Go.RowKit
set_option linter.unusedVariables false
theorem fun_run (fn : Fn) (first cap : Array Value) (w : World) : (Instr.makeFunc fn first cap).run Tryd.prog w = .ok (.func fn first cap) w := rfl
theorem ret_str {s : ByteArray} {l : List UInt8} (h : s = ⟨l.toArray⟩) : Ending.returned (.string s) = Ending.returned (.string ⟨l.toArray⟩) := by rw [h]
theorem set0_ba (a b : List UInt8) : (⟨#[91, 94]⟩ : ByteArray) ++ ⟨a.toArray⟩ ++ ⟨#[45]⟩ ++ ⟨b.toArray⟩ ++ ⟨#[93]⟩ = ⟨([91, 94] ++ (a ++ [45] ++ b) ++ [93]).toArray⟩ := by
  apply ByteArray.ext
  simp
theorem rng_ba (l a b : List UInt8) : (⟨l.toArray⟩ : ByteArray) ++ (⟨a.toArray⟩ ++ ⟨#[45]⟩ ++ ⟨b.toArray⟩) = ⟨(l ++ (a ++ [45] ++ b)).toArray⟩ := by
  apply ByteArray.ext
  simp
theorem brk_ba (l : List UInt8) : (⟨#[91]⟩ : ByteArray) ++ ⟨l.toArray⟩ ++ ⟨#[93]⟩ = ⟨([91] ++ l ++ [93]).toArray⟩ := by
  apply ByteArray.ext
  simp
set_option maxRecDepth 100000 in
set_option maxHeartbeats 8000000 in
theorem ref_empty (ns : List (ByteArray × Int)) (t : Tr) (hk : t.kind = 1) : Law10 ns t := by
  intro d nA nn nc w hn hN
  have hmf := fun_run
  have hbs := ND.box_size w d
  have HB0 := Lib.hid (ND.box_below w d)
  obtain ⟨W, hW⟩ : ∃ W, W = (d.box w).alloc (.cells #[.slice nA nn nc] 26) := ⟨_, rfl⟩
  have HA := Lib.hid (show Below (d.box w).heap.size (d.box w) W by rw [hW]; exact (Below.refl _ _).alloc (Nat.le_refl _) _)
  have HBW := Lib.hid (below_next HB0.out HA.out)
  have HXW := Lib.hid ((BoxN.new w d).next HA.out)
  have HNX := Lib.hid (hn.next HBW.out)
  have HNN := Lib.hid (hN.next HBW.out)
  have n0 : W.cell? ⟨w.heap.size + 1, 0, none⟩ = some (.slice nA nn nc) := by rw [hW, ← hbs, Lib.cell_of_heap (heap_alloc_new (d.box w) _)]; rfl
  have HWS := Lib.hid (show W.heap.size = w.heap.size + 2 by rw [hW]; simp [hbs])
  obtain ⟨ds, hd⟩ := hn.of
  have HD := Lib.hid hd
  have hkind := hd.kind
  have HT := Lib.hid (show showT (nmOf ns) t = [40, 63, 58, 41] by rw [showT_eq]; unfold showK; rw [if_pos hk])
  rw [HT.out]
  rw [hk] at hkind
  clear hn hN hd hbs HB0 HA hk
  obtain ⟨dk, dsA, dsn, dsc, dkA, dkn, dkc, dnum, dleast, dmost, dway, dfold⟩ := d
  unfold ND.agg
  unfold ND.box at hW
  simp only at hW HXW HNX HD hkind ⊢
  obtain ⟨v0, v1, v2, v3, v4, v5, v6, v7, v8⟩ := HXW.out
  subst hkind
  go_enter Tryd.func10, Tryd.ntmps10
  go_upto_region 1 with (fail)
  rw [← hW]
  clear hW
  go_wp2_with fail
  go_ret
  exact ⟨rfl, HBW.out⟩
set_option maxRecDepth 100000 in
set_option maxHeartbeats 8000000 in
theorem ref_set0 (ns : List (ByteArray × Int)) (t : Tr) (hk : t.kind = 2) (hs : t.set = []) : Law10 ns t := by
  intro d nA nn nc w hn hN
  have hmf := fun_run
  have hbs := ND.box_size w d
  have HB0 := Lib.hid (ND.box_below w d)
  obtain ⟨W, hW⟩ : ∃ W, W = (d.box w).alloc (.cells #[.slice nA nn nc] 26) := ⟨_, rfl⟩
  have HA := Lib.hid (show Below (d.box w).heap.size (d.box w) W by rw [hW]; exact (Below.refl _ _).alloc (Nat.le_refl _) _)
  have HBW := Lib.hid (below_next HB0.out HA.out)
  have HXW := Lib.hid ((BoxN.new w d).next HA.out)
  have HNX := Lib.hid (hn.next HBW.out)
  have HNN := Lib.hid (hN.next HBW.out)
  have n0 : W.cell? ⟨w.heap.size + 1, 0, none⟩ = some (.slice nA nn nc) := by rw [hW, ← hbs, Lib.cell_of_heap (heap_alloc_new (d.box w) _)]; rfl
  have HWS := Lib.hid (show W.heap.size = w.heap.size + 2 by rw [hW]; simp [hbs])
  obtain ⟨ds, hd⟩ := hn.of
  have HD := Lib.hid hd
  have hkind := hd.kind
  have HT := Lib.hid (show showT (nmOf ns) t = [91, 94] ++ (hexP 0 ++ [45] ++ hexP 1114111) ++ [93] by rw [showT_eq]; unfold showK; rw [if_neg (by omega), if_pos hk, hs]; rfl)
  rw [HT.out]
  rw [hk] at hkind
  have hsn : d.sn = 0 := by have := hd.snum; rw [hs] at this; simpa using this.symm
  have C24 := Lib.hid (fun (n : Int) (w' : World) (h0 : 0 ≤ n) (h1 : n ≤ 1114111) => hexPoint24 n w' h0 h1)
  have ha := hexP_len (n := 0) (by decide)
  have hb := hexP_len (n := 1114111) (by decide)
  clear hn hN hd hbs HB0 HA hk
  obtain ⟨dk, dsA, dsn, dsc, dkA, dkn, dkc, dnum, dleast, dmost, dway, dfold⟩ := d
  unfold ND.agg
  unfold ND.box at hW
  simp only at hW HXW HNX HD hkind hsn ⊢
  obtain ⟨v0, v1, v2, v3, v4, v5, v6, v7, v8⟩ := HXW.out
  subst hkind hsn
  obtain ⟨a, hA⟩ : ∃ a, a = hexP 0 := ⟨_, rfl⟩
  obtain ⟨b, hB⟩ : ∃ b, b = hexP 1114111 := ⟨_, rfl⟩
  rw [← hA] at ha HT ⊢
  rw [← hB] at hb HT ⊢
  have HBA := Lib.hid (set0_ba a b)
  have C0 := Lib.hid (C24.out 0 W (by decide) (by decide))
  have C1 := Lib.hid (fun w' => C24.out 1114111 w' (by decide) (by decide))
  rw [← hA] at C0
  rw [← hB] at C1
  clear hA hB
  have g1 : ¬ 9223372036854775807 < 2 + a.length := by omega
  have g2 : ¬ 9223372036854775807 < 2 + a.length + 1 := by omega
  have g3 : ¬ 9223372036854775807 < 2 + a.length + 1 + b.length := by omega
  have g4 : ¬ 9223372036854775807 < 2 + a.length + 1 + b.length + 1 := by omega
  clear ha hb
  go_enter Tryd.func10, Tryd.ntmps10
  go_upto_region 1 with (fail)
  rw [← hW]
  clear hW
  go_wp2_with (first
    | (go_at_call 24; (with_reducible refine C0.out.mono ?_); rintro e w1 ⟨rfl, hb⟩; have HB1 := Lib.hid hb; clear hb)
    | (go_at_call 24; refine (C1.out _).mono ?_; rintro e w2 ⟨rfl, hb⟩; have HB2 := Lib.hid (below_next HB1.out hb); clear hb))
  go_ret
  exact ⟨ret_str HBA.out, below_next HBW.out HB2.out⟩
set_option maxRecDepth 100000 in
set_option maxHeartbeats 8000000 in
theorem ref_set (ns : List (ByteArray × Int)) (t : Tr) (hk : t.kind = 2) (hs : t.set ≠ []) (hc : chk t.set = 0) : Law10 ns t := by
  intro d nA nn nc w hn hN
  have hmf := fun_run
  have hbs := ND.box_size w d
  have HB0 := Lib.hid (ND.box_below w d)
  obtain ⟨W, hW⟩ : ∃ W, W = (d.box w).alloc (.cells #[.slice nA nn nc] 26) := ⟨_, rfl⟩
  have HA := Lib.hid (show Below (d.box w).heap.size (d.box w) W by rw [hW]; exact (Below.refl _ _).alloc (Nat.le_refl _) _)
  have HBW := Lib.hid (below_next HB0.out HA.out)
  have HXW := Lib.hid ((BoxN.new w d).next HA.out)
  have HNX := Lib.hid (hn.next HBW.out)
  have HNN := Lib.hid (hN.next HBW.out)
  have n0 : W.cell? ⟨w.heap.size + 1, 0, none⟩ = some (.slice nA nn nc) := by rw [hW, ← hbs, Lib.cell_of_heap (heap_alloc_new (d.box w) _)]; rfl
  have HWS := Lib.hid (show W.heap.size = w.heap.size + 2 by rw [hW]; simp [hbs])
  obtain ⟨ds, hd⟩ := hn.of
  have HD := Lib.hid hd
  have hkind := hd.kind
  have HT := Lib.hid (show showT (nmOf ns) t = [91] ++ t.set.flatMap rngT ++ [93] by rw [showT_eq]; unfold showK; rw [if_neg (by omega), if_pos hk]; unfold setT; rw [if_neg hs])
  rw [HT.out]
  rw [hk] at hkind
  have hnum := hd.snum
  have hsn : 0 < d.sn := by have : t.set.length ≠ 0 := by simpa using hs
                            omega
  have hpts := chk_points hc
  have hsn4 : d.sn ≤ 400 := by omega
  have HP := Lib.hid hpts.2
  have HNUM := Lib.hid hnum
  have HSET := Lib.hid (hd.set.below HBW.out (Nat.le_refl _))
  clear hpts hnum
  clear hn hN hd hbs HB0 HA hk hs hc
  obtain ⟨dk, dsA, dsn, dsc, dkA, dkn, dkc, dnum, dleast, dmost, dway, dfold⟩ := d
  unfold ND.agg
  unfold ND.box at hW
  simp only at hW HXW HNX HD hkind hsn hsn4 HNUM HSET ⊢
  obtain ⟨v0, v1, v2, v3, v4, v5, v6, v7, v8⟩ := HXW.out
  subst hkind
  go_enter Tryd.func10, Tryd.ntmps10
  go_upto_region 1 with (fail)
  rw [← hW]
  clear hW
  go_wp2_with fail
  go_loopw [6, 7] (fun s i wr => ∃ (k : Nat) (l : List UInt8), k ≤ dsn ∧ i = .int .i64 k ∧ s = .string ⟨l.toArray⟩ ∧ Hid (l = (t.set.take k).flatMap rngT) ∧ l.length ≤ 8400 ∧ Hid (Below W.heap.size W wr)) (fun _ i _ => dsn - (intOf i).toNat)
  case atStart => exact ⟨0, [], Nat.zero_le _, rfl, rfl, Lib.hid rfl, by simp, Lib.hid (Below.refl _ _)⟩
  case round =>
    obtain ⟨k, l, hk, rfl, rfl, HLL, hl84, HBR⟩ := hrel
    have hws := HXW.out.1
    have hb1 : wr.cell? ⟨w.heap.size, 1, none⟩ = some (.slice dsA dsn dsc) := by rw [HBR.out.cell (p := ⟨w.heap.size, 1, none⟩) hws]; exact v2
    clear hws
    by_cases hlk : k < dsn
    · obtain ⟨ab, off, hl, rfl, hab, c0, c1⟩ := (HSET.out.below HBR.out (by have := HWS.out; omega)).rng_at hlk
      have hp := HP.out t.set[k] (List.getElem_mem hl)
      have HT2 := Lib.hid (rngT_take t.set k hl)
      have hfl := flat_len (s := t.set.take (k + 1)) (fun r hr => HP.out r (List.mem_of_mem_take hr))
      have hkl : (t.set.take (k + 1)).length ≤ 400 := by rw [List.length_take]; omega
      obtain ⟨p, hp'⟩ : ∃ p, p = t.set[k] := ⟨_, rfl⟩
      rw [← hp'] at c0 c1 hp HT2
      clear hp'
      obtain ⟨x, y⟩ := p
      simp only at c0 c1 hp
      obtain ⟨hx0, hxy, hy1⟩ := hp
      have hx1 : x ≤ 1114111 := by omega
      have hy0 : 0 ≤ y := by omega
      have hlb : ab < wr.heap.size := World.block_lt_of_cell? wr _ c0
      have hlw : w.heap.size < wr.heap.size := World.block_lt_of_cell? wr _ hb1
      have KP := Lib.hid (fun (w' : World) (hb : Below wr.heap.size wr w') => (⟨hb, by rw [hb.cell (p := ⟨w.heap.size, 1, none⟩) hlw]; exact hb1, by rw [hb.cell (p := ⟨ab, off + k * 2, none⟩) hlb]; exact c0, by rw [hb.cell (p := ⟨ab, off + k * 2 + 1, none⟩) hlb]; exact c1⟩ : Below wr.heap.size wr w' ∧ w'.cell? ⟨w.heap.size, 1, none⟩ = some (.slice (some ⟨ab, off, none⟩) dsn dsc) ∧ w'.cell? ⟨ab, off + k * 2, none⟩ = some (.int .i64 x) ∧ w'.cell? ⟨ab, off + k * 2 + 1, none⟩ = some (.int .i64 y)))
      have C24 : Hid (∀ (z : Int) (w' : World), 0 ≤ z → z ≤ 1114111 → Below wr.heap.size wr w' → Calls Tryd.prog 24 #[.int .i64 z] w' fun e w2 => e = .returned (.string ⟨(hexP z).toArray⟩) ∧ Hid (Below wr.heap.size wr w2)) := Lib.hid (fun z w' h0 h1 hb => (hexPoint24 z w' h0 h1).mono (fun e w2 h => ⟨h.1, Lib.hid (below_next hb h.2)⟩))
      have hax := hexP_len (n := x) hx1
      have hay := hexP_len (n := y) hy1
      have g1 : ¬ 9223372036854775807 < (hexP x).length + 1 := by omega
      have g2 : ¬ 9223372036854775807 < (hexP x).length + 1 + (hexP y).length := by omega
      have g3 : ¬ 9223372036854775807 < l.length + ((hexP x).length + 1 + (hexP y).length) := by omega
      have HBA := Lib.hid (rng_ba l (hexP x) (hexP y))
      have HL8 := Lib.hid (show (l ++ (hexP x ++ [45] ++ hexP y)).length ≤ 8400 by
        have := HT2.out; rw [← HLL.out] at this; rw [show l ++ (hexP x ++ [45] ++ hexP y) = (t.set.take (k + 1)).flatMap rngT by rw [this]; rfl]; omega)
      have HLN := Lib.hid (show l ++ (hexP x ++ [45] ++ hexP y) = (t.set.take (k + 1)).flatMap rngT by have := HT2.out; rw [← HLL.out] at this; rw [this]; rfl)
      clear hfl hkl hax hay hlb hlw
      go_upto_region 12 with (fail)
      go_region_held3 (fun w' => Below wr.heap.size wr w' ∧ w'.cell? ⟨w.heap.size, 1, none⟩ = some (.slice (some ⟨ab, off, none⟩) dsn dsc) ∧ w'.cell? ⟨ab, off + k * 2, none⟩ = some (.int .i64 x) ∧ w'.cell? ⟨ab, off + k * 2 + 1, none⟩ = some (.int .i64 y))
        (first
          | (exact KP.out _ (below_drewN (Below.refl _ _) 1))
          | (exact KP.out _ (hby.out))
          | (go_split_ands; exact KP.out _ (below_drewN hby.out 1))
          | go_keep)
        (first
          | (go_split_ands; go_at_call 24; refine (C24.out _ _ (by assumption) (by assumption) (by assumption)).mono ?_; rintro e w1 ⟨rfl, hby⟩))
      all_goals
        go_wp2_with fail
        go_roundw
        case rel => exact ⟨k + 1, l ++ (hexP x ++ [45] ++ hexP y), by omega, by go_num, congrArg Value.string HBA.out, HLN, HL8.out, Lib.hid (below_next HBR.out hby.out)⟩
        case measure => simp [intOf]; omega
    · obtain rfl : k = dsn := by omega
      have HE := Lib.hid (show l = t.set.flatMap rngT by rw [HLL.out, List.take_of_length_le (by have := HNUM.out; omega)])
      have HBA := Lib.hid (show (⟨#[91]⟩ : ByteArray) ++ ⟨l.toArray⟩ ++ ⟨#[93]⟩ = ⟨([91] ++ t.set.flatMap rngT ++ [93]).toArray⟩ by rw [brk_ba, HE.out])
      have g1 : ¬ 9223372036854775807 < 1 + l.length := by omega
      have g2 : ¬ 9223372036854775807 < 1 + l.length + 1 := by omega
      go_wp2_with fail
      go_ret
      exact ⟨ret_str HBA.out, below_next HBW.out HBR.out⟩
set_option maxRecDepth 100000 in
set_option maxHeartbeats 8000000 in
theorem ref_leaf (ns : List (ByteArray × Int)) (t : Tr) (hk : 3 ≤ t.kind ∧ t.kind ≤ 8) : Law10 ns t := by
  intro d nA nn nc w hn hN
  have hmf := fun_run
  have hbs := ND.box_size w d
  have HB0 := Lib.hid (ND.box_below w d)
  obtain ⟨W, hW⟩ : ∃ W, W = (d.box w).alloc (.cells #[.slice nA nn nc] 26) := ⟨_, rfl⟩
  have HA := Lib.hid (show Below (d.box w).heap.size (d.box w) W by rw [hW]; exact (Below.refl _ _).alloc (Nat.le_refl _) _)
  have HBW := Lib.hid (below_next HB0.out HA.out)
  have HXW := Lib.hid ((BoxN.new w d).next HA.out)
  have HNX := Lib.hid (hn.next HBW.out)
  have HNN := Lib.hid (hN.next HBW.out)
  have n0 : W.cell? ⟨w.heap.size + 1, 0, none⟩ = some (.slice nA nn nc) := by rw [hW, ← hbs, Lib.cell_of_heap (heap_alloc_new (d.box w) _)]; rfl
  have HWS := Lib.hid (show W.heap.size = w.heap.size + 2 by rw [hW]; simp [hbs])
  obtain ⟨ds, hd⟩ := hn.of
  have HD := Lib.hid hd
  have hkind := hd.kind
  have HT := Lib.hid (show showT (nmOf ns) t = leafT d.kind by rw [showT_eq]; unfold showK; rw [if_neg (by omega), if_neg (by omega), if_neg (by omega), if_neg (by omega), if_neg (by omega), if_neg (by omega), if_neg (by omega), hd.kind])
  rw [HT.out]
  rw [← hkind] at hk
  clear hn hN hd hbs HB0 HA
  obtain ⟨dk, dsA, dsn, dsc, dkA, dkn, dkc, dnum, dleast, dmost, dway, dfold⟩ := d
  unfold ND.agg
  unfold ND.box at hW
  simp only at hW HXW HNX HD hkind hk ⊢
  obtain ⟨v0, v1, v2, v3, v4, v5, v6, v7, v8⟩ := HXW.out
  have HBE := Lib.hid (below_next HBW.out ((Below.refl _ _).alloc (Nat.le_refl _) (.cells #[.string ⟨#[94]⟩, .string ⟨#[36]⟩, .string ⟨#[92, 65]⟩, .string ⟨#[92, 122]⟩, .string ⟨#[92, 98]⟩, .string ⟨#[92, 66]⟩] 9)))
  have hk6 : dk = 3 ∨ dk = 4 ∨ dk = 5 ∨ dk = 6 ∨ dk = 7 ∨ dk = 8 := by omega
  clear hkind hk
  rcases hk6 with rfl | rfl | rfl | rfl | rfl | rfl
  all_goals
    go_enter Tryd.func10, Tryd.ntmps10
    go_upto_region 1 with (fail)
    rw [← hW]
    clear hW
    go_wp2_with fail
    go_ret
    exact ⟨rfl, HBE.out⟩
set_option maxRecDepth 100000 in
set_option maxHeartbeats 8000000 in
theorem ref_again_false (ns : List (ByteArray × Int)) (t : Tr) (hk : t.kind = 18) (hnum : 1 ≤ t.num ∧ t.num ≤ 20) (hf : t.fold = false) : Law10 ns t := by
  intro d nA nn nc w hn hN
  have hmf := fun_run
  have hbs := ND.box_size w d
  have HB0 := Lib.hid (ND.box_below w d)
  obtain ⟨W, hW⟩ : ∃ W, W = (d.box w).alloc (.cells #[.slice nA nn nc] 26) := ⟨_, rfl⟩
  have HA := Lib.hid (show Below (d.box w).heap.size (d.box w) W by rw [hW]; exact (Below.refl _ _).alloc (Nat.le_refl _) _)
  have HBW := Lib.hid (below_next HB0.out HA.out)
  have HXW := Lib.hid ((BoxN.new w d).next HA.out)
  have HNX := Lib.hid (hn.next HBW.out)
  have HNN := Lib.hid (hN.next HBW.out)
  have n0 : W.cell? ⟨w.heap.size + 1, 0, none⟩ = some (.slice nA nn nc) := by rw [hW, ← hbs, Lib.cell_of_heap (heap_alloc_new (d.box w) _)]; rfl
  have HWS := Lib.hid (show W.heap.size = w.heap.size + 2 by rw [hW]; simp [hbs])
  obtain ⟨ds, hd⟩ := hn.of
  have HD := Lib.hid hd
  have hkind := hd.kind
  have HT := Lib.hid (show showT (nmOf ns) t = againT d.num false by rw [showT_eq]; unfold showK; rw [if_neg (by omega), if_neg (by omega), if_neg (by omega), if_neg (by omega), if_neg (by omega), if_pos hk, hd.num, hf])
  rw [HT.out]
  have hfold := hd.fold
  rw [hf] at hfold
  rw [← hd.num] at hnum
  have hdl := decT_len (n := d.num) (by omega)
  have hal0 : (againT d.num false).length = (decT d.num).length + 4 := by simp [againT]
  have C25 := Lib.hid (decimal25 d.num W (by omega) (by omega))
  have HXN := Lib.hid (fun (w4 : World) (hb : Below W.heap.size W w4) => HXW.out.next hb)
  have eA := again_ba d.num
  have eF := againF_ba d.num
  rw [hk] at hkind
  clear hn hN hd hbs HB0 HA hk hf
  obtain ⟨dk, dsA, dsn, dsc, dkA, dkn, dkc, dnum, dleast, dmost, dway, dfold⟩ := d
  unfold ND.agg
  unfold ND.box at hW
  simp only at hW HXW HNX HD hkind hnum hfold eA eF hdl hal0 C25 HXN ⊢
  obtain ⟨v0, v1, v2, v3, v4, v5, v6, v7, v8⟩ := HXW.out
  subst hkind
  subst hfold
  obtain ⟨x, hx⟩ : ∃ x, x = decT dnum := ⟨_, rfl⟩
  rw [← hx] at hdl hal0 C25 eA
  clear hx
  obtain ⟨y, hy⟩ : ∃ y, y = againT dnum false := ⟨_, rfl⟩
  rw [← hy] at hal0 eA eF ⊢
  clear hy
  obtain ⟨z, hz⟩ : ∃ z, z = againT dnum true := ⟨_, rfl⟩
  rw [← hz] at eF
  clear hz
  have g1 : ¬ 9223372036854775807 < 3 + x.length := by omega
  have g2 : ¬ 9223372036854775807 < 3 + x.length + 1 := by omega
  have g3 : ¬ 9223372036854775807 < 4 + y.length := by omega
  have g4 : ¬ 9223372036854775807 < 4 + y.length + 1 := by omega
  clear hal0 hdl HT
  go_enter Tryd.func10, Tryd.ntmps10
  go_upto_region 1 with (fail)
  rw [← hW]
  clear hW
  go_wp2_with (go_at_call 25; refine C25.out.mono ?_; rintro e w4 ⟨rfl, hb⟩; have HB4 := Lib.hid hb; have hx4 := HXN.out w4 hb; clear v0 v1 v2 v3 v4 v5 v6 v7 v8; obtain ⟨v0, v1, v2, v3, v4, v5, v6, v7, v8⟩ := hx4; clear hb)
  go_ret
  exact ⟨rfl, below_next HBW.out HB4.out⟩
set_option maxRecDepth 100000 in
set_option maxHeartbeats 8000000 in
theorem ref_again_true (ns : List (ByteArray × Int)) (t : Tr) (hk : t.kind = 18) (hnum : 1 ≤ t.num ∧ t.num ≤ 20) (hf : t.fold = true) : Law10 ns t := by
  intro d nA nn nc w hn hN
  have hmf := fun_run
  have hbs := ND.box_size w d
  have HB0 := Lib.hid (ND.box_below w d)
  obtain ⟨W, hW⟩ : ∃ W, W = (d.box w).alloc (.cells #[.slice nA nn nc] 26) := ⟨_, rfl⟩
  have HA := Lib.hid (show Below (d.box w).heap.size (d.box w) W by rw [hW]; exact (Below.refl _ _).alloc (Nat.le_refl _) _)
  have HBW := Lib.hid (below_next HB0.out HA.out)
  have HXW := Lib.hid ((BoxN.new w d).next HA.out)
  have HNX := Lib.hid (hn.next HBW.out)
  have HNN := Lib.hid (hN.next HBW.out)
  have n0 : W.cell? ⟨w.heap.size + 1, 0, none⟩ = some (.slice nA nn nc) := by rw [hW, ← hbs, Lib.cell_of_heap (heap_alloc_new (d.box w) _)]; rfl
  have HWS := Lib.hid (show W.heap.size = w.heap.size + 2 by rw [hW]; simp [hbs])
  obtain ⟨ds, hd⟩ := hn.of
  have HD := Lib.hid hd
  have hkind := hd.kind
  have HT := Lib.hid (show showT (nmOf ns) t = againT d.num true by rw [showT_eq]; unfold showK; rw [if_neg (by omega), if_neg (by omega), if_neg (by omega), if_neg (by omega), if_neg (by omega), if_pos hk, hd.num, hf])
  rw [HT.out]
  have hfold := hd.fold
  rw [hf] at hfold
  rw [← hd.num] at hnum
  have hdl := decT_len (n := d.num) (by omega)
  have hal0 : (againT d.num false).length = (decT d.num).length + 4 := by simp [againT]
  have C25 := Lib.hid (decimal25 d.num W (by omega) (by omega))
  have HXN := Lib.hid (fun (w4 : World) (hb : Below W.heap.size W w4) => HXW.out.next hb)
  have eA := again_ba d.num
  have eF := againF_ba d.num
  rw [hk] at hkind
  clear hn hN hd hbs HB0 HA hk hf
  obtain ⟨dk, dsA, dsn, dsc, dkA, dkn, dkc, dnum, dleast, dmost, dway, dfold⟩ := d
  unfold ND.agg
  unfold ND.box at hW
  simp only at hW HXW HNX HD hkind hnum hfold eA eF hdl hal0 C25 HXN ⊢
  obtain ⟨v0, v1, v2, v3, v4, v5, v6, v7, v8⟩ := HXW.out
  subst hkind
  subst hfold
  obtain ⟨x, hx⟩ : ∃ x, x = decT dnum := ⟨_, rfl⟩
  rw [← hx] at hdl hal0 C25 eA
  clear hx
  obtain ⟨y, hy⟩ : ∃ y, y = againT dnum false := ⟨_, rfl⟩
  rw [← hy] at hal0 eA eF
  clear hy
  obtain ⟨z, hz⟩ : ∃ z, z = againT dnum true := ⟨_, rfl⟩
  rw [← hz] at eF ⊢
  clear hz
  have g1 : ¬ 9223372036854775807 < 3 + x.length := by omega
  have g2 : ¬ 9223372036854775807 < 3 + x.length + 1 := by omega
  have g3 : ¬ 9223372036854775807 < 4 + y.length := by omega
  have g4 : ¬ 9223372036854775807 < 4 + y.length + 1 := by omega
  clear hal0 hdl HT
  go_enter Tryd.func10, Tryd.ntmps10
  go_upto_region 1 with (fail)
  rw [← hW]
  clear hW
  go_wp2_with (go_at_call 25; refine C25.out.mono ?_; rintro e w4 ⟨rfl, hb⟩; have HB4 := Lib.hid hb; have hx4 := HXN.out w4 hb; clear v0 v1 v2 v3 v4 v5 v6 v7 v8; obtain ⟨v0, v1, v2, v3, v4, v5, v6, v7, v8⟩ := hx4; clear hb)
  go_ret
  exact ⟨rfl, below_next HBW.out HB4.out⟩
end Go.Proofs.YtbekjfoefjnidaaDoor
