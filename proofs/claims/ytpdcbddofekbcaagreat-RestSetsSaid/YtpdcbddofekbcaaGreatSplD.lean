/- packed at two bytes, within, utf8Roads at the beginning's set: walked. -/
import Derived.Test.YtpdcbddofekbcaaGreatGT
import Derived.Laws.EntriesVeiled
namespace Go.Proofs.YtpdcbddofekbcaaGreat
open Go.RowKit
set_option linter.unusedVariables false
theorem cell_newb (W : World) (cs : Array Value) (e : TypeId) (b k : Nat) (u : Value) (h : W.heap.size = b) (hk : cs[k]? = some u) : (W.alloc (.cells cs e)).cell? ⟨b, k, none⟩ = some u := by
  subst h
  rw [cell_of_row _ _ _ _ e (0, 0) (heap_alloc_new W _)]
  exact hk
theorem packed_env (w : World) : CutEnv ((((w.alloc (.cells #[.int .i64 2] 3)).alloc (.cells #[.int .i64 0, .int .i64 0, .int .i64 192, .int .i64 224, .int .i64 240] 3)).alloc (.cells #[.slice (some ⟨w.heap.size + 1, 0, none⟩) 5 5] 50)).alloc (.cells #[.func (.func 76) #[] #[.pointer (some ⟨w.heap.size, 0, none⟩), .pointer (some ⟨w.heap.size + 1 + 1, 0, none⟩), .pointer (some ⟨w.heap.size + 1 + 1 + 1, 0, none⟩)]] 67)) w.heap.size (w.heap.size + 1 + 1) (w.heap.size + 1 + 1 + 1) (w.heap.size + 1) := by
  have z1 : (w.alloc (.cells #[.int .i64 2] 3)).heap.size = w.heap.size + 1 := by simp
  have z2 : ((w.alloc (.cells #[.int .i64 2] 3)).alloc (.cells #[.int .i64 0, .int .i64 0, .int .i64 192, .int .i64 224, .int .i64 240] 3)).heap.size = w.heap.size + 1 + 1 := by simp
  have z3 : (((w.alloc (.cells #[.int .i64 2] 3)).alloc (.cells #[.int .i64 0, .int .i64 0, .int .i64 192, .int .i64 224, .int .i64 240] 3)).alloc (.cells #[.slice (some ⟨w.heap.size + 1, 0, none⟩) 5 5] 50)).heap.size = w.heap.size + 1 + 1 + 1 := by simp
  refine ⟨?_, ?_, ?_, ?_⟩
  · rw [World.cell?_alloc_lt _ _ _ (by rw [z3]; show w.heap.size < _; omega), World.cell?_alloc_lt _ _ _ (by rw [z2]; show w.heap.size < _; omega), World.cell?_alloc_lt _ _ _ (by rw [z1]; show w.heap.size < _; omega)]
    exact cell_newb w _ _ _ 0 _ rfl rfl
  · rw [World.cell?_alloc_lt _ _ _ (by rw [z3]; show w.heap.size + 1 + 1 < _; omega)]
    exact cell_newb _ _ _ _ 0 _ z2 rfl
  · rw [World.cell?_alloc_lt _ _ _ (by rw [z3]; show w.heap.size + 1 < _; omega), World.cell?_alloc_lt _ _ _ (by rw [z2]; show w.heap.size + 1 < _; omega)]
    exact cell_newb _ _ _ _ 2 _ z1 rfl
  · exact cell_newb _ _ _ _ 0 _ z3 rfl
set_option maxRecDepth 100000 in
set_option maxHeartbeats 1000000 in
theorem packed_2 (w : World) : Calls Tryz.prog 56 #[.int .i64 233, .int .i64 233, .int .i64 2] w (RoadsOut w [[(195, 195), (169, 169)]]) := by
  have EG := Lib.hid (show ∀ args w, (callFunc 76 args).run Tryz.prog w = .ok (.enter 76 args) w from enters_of Tryz.func76 (by kernel_rfl) rfl)
  go_enter Tryz.func56, Tryz.ntmps56
  go_wp2_with fail
  have z4 : ((((w.alloc (.cells #[.int .i64 2] 3)).alloc (.cells #[.int .i64 0, .int .i64 0, .int .i64 192, .int .i64 224, .int .i64 240] 3)).alloc (.cells #[.slice (some ⟨w.heap.size + 1, 0, none⟩) 5 5] 50)).alloc (.cells #[.func (.func 76) #[] #[.pointer (some ⟨w.heap.size, 0, none⟩), .pointer (some ⟨w.heap.size + 1 + 1, 0, none⟩), .pointer (some ⟨w.heap.size + 1 + 1 + 1, 0, none⟩)]] 67)).heap.size = w.heap.size + 1 + 1 + 1 + 1 := by simp
  have HB := Lib.hid (show Below w.heap.size w ((((w.alloc (.cells #[.int .i64 2] 3)).alloc (.cells #[.int .i64 0, .int .i64 0, .int .i64 192, .int .i64 224, .int .i64 240] 3)).alloc (.cells #[.slice (some ⟨w.heap.size + 1, 0, none⟩) 5 5] 50)).alloc (.cells #[.func (.func 76) #[] #[.pointer (some ⟨w.heap.size, 0, none⟩), .pointer (some ⟨w.heap.size + 1 + 1, 0, none⟩), .pointer (some ⟨w.heap.size + 1 + 1 + 1, 0, none⟩)]] 67)) by go_grown)
  refine (cut_2 _ _ _ _ _ (packed_env w) (by rw [z4]; omega)).mono ?_
  rintro e w1 ⟨A, n, c, vs, rfl, h1, h2, h3, h4, h6⟩
  have HV := Lib.hid (RoadsOut.up HB.out ⟨A, n, c, vs, rfl, h1, h2, h3, h4, h6⟩)
  go_wp2
  go_ret
  exact HV.out
set_option maxRecDepth 100000 in
set_option maxHeartbeats 1000000 in
theorem within92 (a : List (Int × Int)) (lo hi : Int) (A : Option Addr) (n c : Nat) (w : World) (hn : n ≤ 90000) (hca : Can a) (hlo : 0 ≤ lo) (hhi : hi ≤ 1114111) (hlh : lo ≤ hi) (ha : Rds w w.heap.size 2 A n (rngs a)) :
    Calls Tryz.prog 29 #[.slice A n c, .int .i64 lo, .int .i64 hi] w fun e w' => ∃ out, (IsSet out fun p => mem a p ∧ lo ≤ p ∧ p ≤ hi) ∧ OwnRngs w out e w' := by
  have HC := Lib.hid hca
  have hz : (w.alloc (.cells #[.int .i64 lo, .int .i64 hi] 25)).heap.size = w.heap.size + 1 := by simp
  have hb0 : Below w.heap.size w (w.alloc (.cells #[.int .i64 lo, .int .i64 hi] 25)) := by go_grown
  have HB0 := Lib.hid hb0
  have R := Lib.hid (ha.next hb0)
  have R2 := Lib.hid ((Rds.new w 2 1 #[.int .i64 lo, .int .i64 hi] 25 (rngs [(lo, hi)]) rfl rfl).more (B' := (w.alloc (.cells #[.int .i64 lo, .int .i64 hi] 25)).heap.size) (by simp))
  have HC2 := Lib.hid (show Can [(lo, hi)] from ⟨fun r hr => by rw [List.mem_singleton.1 hr]; exact (okR_iff _).2 ⟨hlo, hlh, hhi⟩, by simp⟩)
  clear hca hz hb0
  go_enter Tryz.func29, Tryz.ntmps29
  go_wp2_with fail
  refine (rawMeet82 a [(lo, hi)] A (some ⟨w.heap.size, 0, none⟩) n c 1 1 _ (by omega) HC.out HC2.out R.out R2.out).mono ?_
  rintro e w1 ⟨out, hs, hl, A1, n1, c1, rfl, hown, hb⟩
  have HS := Lib.hid hs
  have HO := Lib.hid hown
  clear hs hown
  go_wp2
  go_ret
  refine ⟨out, ⟨HS.out.1, fun p => (HS.out.2 p).trans ?_⟩, A1, n1, c1, rfl, own_mono HO.out (by simp), HB0.out.trans (hb.mono (by simp))⟩
  show (mem a p ∧ mem [(lo, hi)] p) ↔ (mem a p ∧ lo ≤ p ∧ p ≤ hi)
  rw [mem_cons]
  have := mem_nil p
  constructor
  · rintro ⟨h1, h2 | h2⟩
    · exact ⟨h1, h2⟩
    · exact absurd h2 this
  · rintro ⟨h1, h2⟩; exact ⟨h1, .inl h2⟩
/-! utf8Roads at [65-66, 233] -/
def begS : List (Int × Int) := [(65, 66), (233, 233)]
theorem begS_can : Can begS := ⟨by decide, by decide⟩
/-- the parts -/
def parts : List (Int × Int × Int) := [(0, 127, 1), (128, 2047, 2), (2048, 55295, 3), (57344, 65535, 3), (65536, 1114111, 4)]
def part1 (k : Nat) : List (Int × Int) := if k = 0 then [(65, 66)] else if k = 1 then [(233, 233)] else []
def upRoads (k : Nat) : List (List (Int × Int)) := if k = 0 then [] else if k = 1 then [[(65, 66)]] else [[(65, 66)], [(195, 195), (169, 169)]]
theorem part_set {out : List (Int × Int)} {lo hi : Int} {l : List (Int × Int)} (h : IsSet out fun p => mem begS p ∧ lo ≤ p ∧ p ≤ hi) (hl : Can l) (hm : ∀ p, (mem begS p ∧ lo ≤ p ∧ p ≤ hi) ↔ mem l p) : out = l :=
  h.eq (⟨hl, fun p => Iff.rfl⟩ : IsSet l (mem l)) hm
/-- one part more: roads behind those that are there -/
theorem RoadsVal.app {w W w' : World} {ls ms : List (List (Int × Int))} {v v' : Value} {n m b : Nat} {xs us : List Value} (ho : W.ownsRow w.heap.size 22 1 v n xs) (h4 : OwnSls W w.heap.size xs ls) (hb : Below w.heap.size w W)
    (k4 : OwnSls W b us ms) (hbb : w.heap.size ≤ b) (hown : w'.ownsRow w.heap.size 22 1 v' (n + m) (xs ++ us)) (hg : W.grownBy w' v.ownBlock) (hf : ∀ u ∈ xs, ∀ x ∈ us, ∀ g, u.ownBlock = some g → x.ownBlock ≠ some g) : RoadsVal w w' (ls ++ ms) v' :=
  .of hown ((h4.kept ho hg).append ((k4.mono hbb).kept ho hg) hf) (grown_own hb ho hg (Nat.le_refl _) hb.size)
set_option maxRecDepth 100000 in
set_option maxHeartbeats 4000000 in
theorem utf8_91 (A : Option Addr) (n c : Nat) (w : World) (hn : n ≤ 90000) (ha : Rds w w.heap.size 2 A n (rngs begS)) :
    Calls Tryz.prog 28 #[.slice A n c] w (RoadsOut w [[(65, 66)], [(195, 195), (169, 169)]]) := by
  have hp0 : Below w.heap.size w (w.alloc (.cells #[.int .i64 0, .int .i64 127, .int .i64 1, .int .i64 128, .int .i64 2047, .int .i64 2, .int .i64 2048, .int .i64 55295, .int .i64 3, .int .i64 57344, .int .i64 65535, .int .i64 3, .int .i64 65536, .int .i64 1114111, .int .i64 4] 65)) := by go_grown
  have HP0 := Lib.hid hp0
  have HPP := Lib.hid (fun (wr : World) (hb : Below (w.alloc (.cells #[.int .i64 0, .int .i64 127, .int .i64 1, .int .i64 128, .int .i64 2047, .int .i64 2, .int .i64 2048, .int .i64 55295, .int .i64 3, .int .i64 57344, .int .i64 65535, .int .i64 3, .int .i64 65536, .int .i64 1114111, .int .i64 4] 65)).heap.size (w.alloc (.cells #[.int .i64 0, .int .i64 127, .int .i64 1, .int .i64 128, .int .i64 2047, .int .i64 2, .int .i64 2048, .int .i64 55295, .int .i64 3, .int .i64 57344, .int .i64 65535, .int .i64 3, .int .i64 65536, .int .i64 1114111, .int .i64 4] 65)) wr) (j : Nat) (u : Value) (hj : (#[.int .i64 0, .int .i64 127, .int .i64 1, .int .i64 128, .int .i64 2047, .int .i64 2, .int .i64 2048, .int .i64 55295, .int .i64 3, .int .i64 57344, .int .i64 65535, .int .i64 3, .int .i64 65536, .int .i64 1114111, .int .i64 4] : Array Value)[j]? = some u) => show wr.cell? ⟨w.heap.size, j, none⟩ = some u from by
    rw [hb.cell (p := ⟨w.heap.size, j, none⟩) (by simp)]
    exact cell_newb w _ _ _ j _ rfl hj)
  clear hp0
  go_enter Tryz.func28, Tryz.ntmps28
  go_wp2_with fail
  go_loopw [3, 15] (fun v i wr => ∃ k : Nat, k ≤ 5 ∧ i = .int .i64 k ∧ RoadsVal (w.alloc (.cells #[.int .i64 0, .int .i64 127, .int .i64 1, .int .i64 128, .int .i64 2047, .int .i64 2, .int .i64 2048, .int .i64 55295, .int .i64 3, .int .i64 57344, .int .i64 65535, .int .i64 3, .int .i64 65536, .int .i64 1114111, .int .i64 4] 65)) wr (upRoads k) v) (fun _ i _ => 5 - (intOf i).toNat)
  case atStart => exact ⟨0, Nat.zero_le _, rfl, RoadsVal.nil _⟩
  case round =>
    obtain ⟨k, hk, rfl, hv⟩ := hrel
    have HV := Lib.hid hv
    have hBw : Below (w.alloc (.cells #[.int .i64 0, .int .i64 127, .int .i64 1, .int .i64 128, .int .i64 2047, .int .i64 2, .int .i64 2048, .int .i64 55295, .int .i64 3, .int .i64 57344, .int .i64 65535, .int .i64 3, .int .i64 65536, .int .i64 1114111, .int .i64 4] 65)).heap.size (w.alloc (.cells #[.int .i64 0, .int .i64 127, .int .i64 1, .int .i64 128, .int .i64 2047, .int .i64 2, .int .i64 2048, .int .i64 55295, .int .i64 3, .int .i64 57344, .int .i64 65535, .int .i64 3, .int .i64 65536, .int .i64 1114111, .int .i64 4] 65)) wr := by obtain ⟨_, _, _, _, _, _, _, _, _, h⟩ := hv; exact h
    clear hv
    have HB := Lib.hid hBw
    by_cases hk5 : k = 5
    · subst hk5
      obtain ⟨Ao, no, co, vs, rfl, h1, h2, h3, h4, h6⟩ := HV.out
      go_wp2
      go_ret
      exact RoadsOut.up HP0.out ⟨Ao, no, co, vs, rfl, h1, h2, h3, h4, h6⟩
    have hk6 : k = 0 ∨ k = 1 ∨ k = 2 ∨ k = 3 ∨ k = 4 := by omega
    clear hk hk5
    obtain ⟨W0, rfl⟩ : ∃ x, x = wr := ⟨_, rfl⟩
    rcases hk6 with rfl | rfl | rfl | rfl | rfl
    · have p1 := HPP.out W0 HB.out 0 (.int .i64 0) rfl
      have p2 := HPP.out W0 HB.out 1 (.int .i64 127) rfl
      have p3 := HPP.out W0 HB.out 2 (.int .i64 1) rfl
      have hzb : (W0.alloc (.cells #[.int .i64 0, .int .i64 127, .int .i64 1] 65)).heap.size = W0.heap.size + 1 := by simp
      have hbb : Below W0.heap.size W0 (W0.alloc (.cells #[.int .i64 0, .int .i64 127, .int .i64 1] 65)) := by go_grown
      have HBB := Lib.hid hbb
      have RA := Lib.hid (((ha.next HP0.out).next hBw).next hbb)
      clear hbb
      go_wp2_with fail
      refine (within92 begS 0 127 A n c _ hn begS_can (by decide) (by decide) (by decide) RA.out).mono ?_
      rintro e w5 ⟨out, hs, A5, n5, c5, rfl, hown, hb⟩
      have he : out = [(65, 66)] := part_set hs ⟨by decide, by decide⟩ (by intro p; simp only [begS, mem_cons, mem_nil, or_false]; omega)
      subst he
      have HO5 := Lib.hid hown
      have hn5 : n5 = 1 := own_rngs_len hown
      subst hn5
      have HB5 := Lib.hid (HBB.out.trans (hb.mono (by rw [hzb]; omega)))
      have HV5 := Lib.hid (HV.out.next HB5.out)
      have hx1 : w5.cell? ⟨W0.heap.size, 2, none⟩ = some (.int .i64 1) := by rw [hb.cell (p := ⟨W0.heap.size, 2, none⟩) (by rw [hzb]; show W0.heap.size < _; omega)]; exact cell_newb W0 _ _ _ 2 _ rfl rfl
      have hw5 : W0.heap.size < w5.heap.size := by have h := hb.size; rw [hzb] at h; omega
      clear hs hown hb p1 p2 p3
      obtain ⟨b3, off3, hl3, hA3, hb3, hc3, hd3⟩ := (Rds.of_own HO5.out).rng_at (k := 0) (by decide)
      subst hA3
      simp only [Nat.zero_mul, Nat.add_zero, List.getElem_cons_zero] at hc3 hd3
      obtain ⟨Ao, no, co, vs, rfl, h1, h2, h3, h4, h6⟩ := HV5.out
      have hno : no ≤ 0 := by have a := h3.out.1; rw [h4.out.1] at a; simp [upRoads] at a; omega
      go_wp2_with fail
      go_loopw [3, 26] (fun v i wr => (i = .int .i64 0 ∧ v = .slice Ao no co ∧ wr = w5) ∨ (i = .int .i64 1 ∧ RoadsVal (w.alloc (.cells #[.int .i64 0, .int .i64 127, .int .i64 1, .int .i64 128, .int .i64 2047, .int .i64 2, .int .i64 2048, .int .i64 55295, .int .i64 3, .int .i64 57344, .int .i64 65535, .int .i64 3, .int .i64 65536, .int .i64 1114111, .int .i64 4] 65)) wr (upRoads 1) v)) (fun _ i _ => 1 - (intOf i).toNat)
      case atStart => exact .inl ⟨rfl, rfl, rfl⟩
      case round =>
        rcases hrel with ⟨rfl, rfl, hwr⟩ | ⟨rfl, hv⟩
        · obtain ⟨wz, hwz⟩ : ∃ wz, wz = wr := ⟨_, rfl⟩
          rw [← hwz] at hwr ⊢
          clear hwz
          rw [← hwr] at hc3 hd3 hx1 h3 h4 h6 hb3 hw5
          clear hwr
          have hza : (wz.alloc (.cells #[.int .i64 65, .int .i64 66] 25)).heap.size = wz.heap.size + 1 := by simp
          have hba : Below wz.heap.size wz (wz.alloc (.cells #[.int .i64 65, .int .i64 66] 25)) := by go_grown
          have HBA := Lib.hid hba
          have hx2 : (wz.alloc (.cells #[.int .i64 65, .int .i64 66] 25)).cell? ⟨W0.heap.size, 2, none⟩ = some (.int .i64 1) := by rw [World.cell?_alloc_lt _ _ _ (by show W0.heap.size < wz.heap.size; exact hw5)]; exact hx1
          clear hba
          go_wp2_with fail
          refine (packed_1 65 66 _).mono ?_
          rintro e w6 ⟨A6, n6, c6, us, rfl, k1, k2, k3, k4, k6⟩
          have HB6 := Lib.hid (HBA.out.trans (k6.mono (by rw [hza]; omega)))
          have HO6 := Lib.hid (own_below h3.out HB6.out (Nat.le_refl _))
          have HS6 := Lib.hid (h4.out.below HB6.out)
          have HF6 := Lib.hid (h4.out.fresh2 (k4.out.mono (by rw [hza]; omega)))
          have hn6 : n6 ≤ 1 := by have a := k3.out.1; rw [k4.out.1] at a; simp at a; omega
          have hbw6 : Below (w.alloc (.cells #[.int .i64 0, .int .i64 127, .int .i64 1, .int .i64 128, .int .i64 2047, .int .i64 2, .int .i64 2048, .int .i64 55295, .int .i64 3, .int .i64 57344, .int .i64 65535, .int .i64 3, .int .i64 65536, .int .i64 1114111, .int .i64 4] 65)).heap.size (w.alloc (.cells #[.int .i64 0, .int .i64 127, .int .i64 1, .int .i64 128, .int .i64 2047, .int .i64 2, .int .i64 2048, .int .i64 55295, .int .i64 3, .int .i64 57344, .int .i64 65535, .int .i64 3, .int .i64 65536, .int .i64 1114111, .int .i64 4] 65)) w6 := h6.trans (HB6.out.mono h6.size)
          have HBW6 := Lib.hid hbw6
          have hbase : (w.alloc (.cells #[.int .i64 0, .int .i64 127, .int .i64 1, .int .i64 128, .int .i64 2047, .int .i64 2, .int .i64 2048, .int .i64 55295, .int .i64 3, .int .i64 57344, .int .i64 65535, .int .i64 3, .int .i64 65536, .int .i64 1114111, .int .i64 4] 65)).heap.size ≤ w6.heap.size := hbw6.size
          clear hx1 hx2 hc3 hd3 hbw6
          go_wp2_with (at_builtin; refine app_roads (.tmp 30) (.tmp 37) (base := (w.alloc (.cells #[.int .i64 0, .int .i64 127, .int .i64 1, .int .i64 128, .int .i64 2047, .int .i64 2, .int .i64 2048, .int .i64 55295, .int .i64 3, .int .i64 57344, .int .i64 65535, .int .i64 3, .int .i64 65536, .int .i64 1114111, .int .i64 4] 65)).heap.size) HO6.out (Rds.of_own k3.out) k4.out.cells (by omega) hbase rfl rfl rfl rfl ?_; intro v7 w7 hown7 hg7 hat7)
          have HV7 := Lib.hid (RoadsVal.app HO6.out HS6.out HBW6.out k4.out (by rw [hza]; have := h6.size; omega) hown7 hg7 HF6.out)
          go_roundw
          case rel => exact .inr ⟨by go_num, HV7.out⟩
          case measure => simp [intOf]
        · have HV8 := Lib.hid hv
          obtain ⟨A8, n8, c8, vs8, rfl, _⟩ := hv
          go_wp2
          go_roundw
          case rel => exact ⟨1, by decide, by go_num, HV8.out⟩
          case measure => simp [intOf]
    · have p1 := HPP.out W0 HB.out 3 (.int .i64 128) rfl
      have p2 := HPP.out W0 HB.out 4 (.int .i64 2047) rfl
      have p3 := HPP.out W0 HB.out 5 (.int .i64 2) rfl
      have hzb : (W0.alloc (.cells #[.int .i64 128, .int .i64 2047, .int .i64 2] 65)).heap.size = W0.heap.size + 1 := by simp
      have hbb : Below W0.heap.size W0 (W0.alloc (.cells #[.int .i64 128, .int .i64 2047, .int .i64 2] 65)) := by go_grown
      have HBB := Lib.hid hbb
      have RA := Lib.hid (((ha.next HP0.out).next hBw).next hbb)
      clear hbb
      go_wp2_with fail
      refine (within92 begS 128 2047 A n c _ hn begS_can (by decide) (by decide) (by decide) RA.out).mono ?_
      rintro e w5 ⟨out, hs, A5, n5, c5, rfl, hown, hb⟩
      have he : out = [(233, 233)] := part_set hs ⟨by decide, by decide⟩ (by intro p; simp only [begS, mem_cons, mem_nil, or_false]; omega)
      subst he
      have HO5 := Lib.hid hown
      have hn5 : n5 = 1 := own_rngs_len hown
      subst hn5
      have HB5 := Lib.hid (HBB.out.trans (hb.mono (by rw [hzb]; omega)))
      have HV5 := Lib.hid (HV.out.next HB5.out)
      have hx1 : w5.cell? ⟨W0.heap.size, 2, none⟩ = some (.int .i64 2) := by rw [hb.cell (p := ⟨W0.heap.size, 2, none⟩) (by rw [hzb]; show W0.heap.size < _; omega)]; exact cell_newb W0 _ _ _ 2 _ rfl rfl
      have hw5 : W0.heap.size < w5.heap.size := by have h := hb.size; rw [hzb] at h; omega
      clear hs hown hb p1 p2 p3
      obtain ⟨b3, off3, hl3, hA3, hb3, hc3, hd3⟩ := (Rds.of_own HO5.out).rng_at (k := 0) (by decide)
      subst hA3
      simp only [Nat.zero_mul, Nat.add_zero, List.getElem_cons_zero] at hc3 hd3
      obtain ⟨Ao, no, co, vs, rfl, h1, h2, h3, h4, h6⟩ := HV5.out
      have hno : no ≤ 1 := by have a := h3.out.1; rw [h4.out.1] at a; simp [upRoads] at a; omega
      go_wp2_with fail
      go_loopw [3, 26] (fun v i wr => (i = .int .i64 0 ∧ v = .slice Ao no co ∧ wr = w5) ∨ (i = .int .i64 1 ∧ RoadsVal (w.alloc (.cells #[.int .i64 0, .int .i64 127, .int .i64 1, .int .i64 128, .int .i64 2047, .int .i64 2, .int .i64 2048, .int .i64 55295, .int .i64 3, .int .i64 57344, .int .i64 65535, .int .i64 3, .int .i64 65536, .int .i64 1114111, .int .i64 4] 65)) wr (upRoads 2) v)) (fun _ i _ => 1 - (intOf i).toNat)
      case atStart => exact .inl ⟨rfl, rfl, rfl⟩
      case round =>
        rcases hrel with ⟨rfl, rfl, hwr⟩ | ⟨rfl, hv⟩
        · obtain ⟨wz, hwz⟩ : ∃ wz, wz = wr := ⟨_, rfl⟩
          rw [← hwz] at hwr ⊢
          clear hwz
          rw [← hwr] at hc3 hd3 hx1 h3 h4 h6 hb3 hw5
          clear hwr
          have hza : (wz.alloc (.cells #[.int .i64 233, .int .i64 233] 25)).heap.size = wz.heap.size + 1 := by simp
          have hba : Below wz.heap.size wz (wz.alloc (.cells #[.int .i64 233, .int .i64 233] 25)) := by go_grown
          have HBA := Lib.hid hba
          have hx2 : (wz.alloc (.cells #[.int .i64 233, .int .i64 233] 25)).cell? ⟨W0.heap.size, 2, none⟩ = some (.int .i64 2) := by rw [World.cell?_alloc_lt _ _ _ (by show W0.heap.size < wz.heap.size; exact hw5)]; exact hx1
          clear hba
          go_wp2_with fail
          refine (packed_2 _).mono ?_
          rintro e w6 ⟨A6, n6, c6, us, rfl, k1, k2, k3, k4, k6⟩
          have HB6 := Lib.hid (HBA.out.trans (k6.mono (by rw [hza]; omega)))
          have HO6 := Lib.hid (own_below h3.out HB6.out (Nat.le_refl _))
          have HS6 := Lib.hid (h4.out.below HB6.out)
          have HF6 := Lib.hid (h4.out.fresh2 (k4.out.mono (by rw [hza]; omega)))
          have hn6 : n6 ≤ 1 := by have a := k3.out.1; rw [k4.out.1] at a; simp at a; omega
          have hbw6 : Below (w.alloc (.cells #[.int .i64 0, .int .i64 127, .int .i64 1, .int .i64 128, .int .i64 2047, .int .i64 2, .int .i64 2048, .int .i64 55295, .int .i64 3, .int .i64 57344, .int .i64 65535, .int .i64 3, .int .i64 65536, .int .i64 1114111, .int .i64 4] 65)).heap.size (w.alloc (.cells #[.int .i64 0, .int .i64 127, .int .i64 1, .int .i64 128, .int .i64 2047, .int .i64 2, .int .i64 2048, .int .i64 55295, .int .i64 3, .int .i64 57344, .int .i64 65535, .int .i64 3, .int .i64 65536, .int .i64 1114111, .int .i64 4] 65)) w6 := h6.trans (HB6.out.mono h6.size)
          have HBW6 := Lib.hid hbw6
          have hbase : (w.alloc (.cells #[.int .i64 0, .int .i64 127, .int .i64 1, .int .i64 128, .int .i64 2047, .int .i64 2, .int .i64 2048, .int .i64 55295, .int .i64 3, .int .i64 57344, .int .i64 65535, .int .i64 3, .int .i64 65536, .int .i64 1114111, .int .i64 4] 65)).heap.size ≤ w6.heap.size := hbw6.size
          clear hx1 hx2 hc3 hd3 hbw6
          go_wp2_with (at_builtin; refine app_roads (.tmp 30) (.tmp 37) (base := (w.alloc (.cells #[.int .i64 0, .int .i64 127, .int .i64 1, .int .i64 128, .int .i64 2047, .int .i64 2, .int .i64 2048, .int .i64 55295, .int .i64 3, .int .i64 57344, .int .i64 65535, .int .i64 3, .int .i64 65536, .int .i64 1114111, .int .i64 4] 65)).heap.size) HO6.out (Rds.of_own k3.out) k4.out.cells (by omega) hbase rfl rfl rfl rfl ?_; intro v7 w7 hown7 hg7 hat7)
          have HV7 := Lib.hid (RoadsVal.app HO6.out HS6.out HBW6.out k4.out (by rw [hza]; have := h6.size; omega) hown7 hg7 HF6.out)
          go_roundw
          case rel => exact .inr ⟨by go_num, HV7.out⟩
          case measure => simp [intOf]
        · have HV8 := Lib.hid hv
          obtain ⟨A8, n8, c8, vs8, rfl, _⟩ := hv
          go_wp2
          go_roundw
          case rel => exact ⟨2, by decide, by go_num, HV8.out⟩
          case measure => simp [intOf]
    · have p1 := HPP.out W0 HB.out 6 (.int .i64 2048) rfl
      have p2 := HPP.out W0 HB.out 7 (.int .i64 55295) rfl
      have p3 := HPP.out W0 HB.out 8 (.int .i64 3) rfl
      have hzb : (W0.alloc (.cells #[.int .i64 2048, .int .i64 55295, .int .i64 3] 65)).heap.size = W0.heap.size + 1 := by simp
      have hbb : Below W0.heap.size W0 (W0.alloc (.cells #[.int .i64 2048, .int .i64 55295, .int .i64 3] 65)) := by go_grown
      have HBB := Lib.hid hbb
      have RA := Lib.hid (((ha.next HP0.out).next hBw).next hbb)
      clear hbb
      go_wp2_with fail
      refine (within92 begS 2048 55295 A n c _ hn begS_can (by decide) (by decide) (by decide) RA.out).mono ?_
      rintro e w5 ⟨out, hs, A5, n5, c5, rfl, hown, hb⟩
      have he : out = [] := part_set hs ⟨by decide, by decide⟩ (fun p => ⟨fun h => by simp only [begS, mem_cons, mem_nil, or_false] at h; omega, fun h => absurd h (mem_nil p)⟩)
      subst he
      have HO5 := Lib.hid hown
      have hn5 : n5 = 0 := own_rngs_len hown
      subst hn5
      have HB5 := Lib.hid (HBB.out.trans (hb.mono (by rw [hzb]; omega)))
      have HV5 := Lib.hid (HV.out.next HB5.out)
      have hx1 : w5.cell? ⟨W0.heap.size, 2, none⟩ = some (.int .i64 3) := by rw [hb.cell (p := ⟨W0.heap.size, 2, none⟩) (by rw [hzb]; show W0.heap.size < _; omega)]; exact cell_newb W0 _ _ _ 2 _ rfl rfl
      have hw5 : W0.heap.size < w5.heap.size := by have h := hb.size; rw [hzb] at h; omega
      clear hs hown hb p1 p2 p3
      obtain ⟨Ao, no, co, vs, rfl, h1, h2, h3, h4, h6⟩ := HV5.out
      go_wp2_with fail
      go_loopw [3, 26] (fun v i wr => i = .int .i64 0 ∧ v = .slice Ao no co ∧ wr = w5) (fun _ i _ => 0)
      case atStart => exact ⟨rfl, rfl, rfl⟩
      case round =>
        obtain ⟨rfl, rfl, rfl⟩ := hrel
        go_wp2
        go_roundw
        case rel => exact ⟨3, by decide, by go_num, Ao, no, co, vs, rfl, h1, h2, h3, h4, h6⟩
        case measure => simp [intOf]
    · have p1 := HPP.out W0 HB.out 9 (.int .i64 57344) rfl
      have p2 := HPP.out W0 HB.out 10 (.int .i64 65535) rfl
      have p3 := HPP.out W0 HB.out 11 (.int .i64 3) rfl
      have hzb : (W0.alloc (.cells #[.int .i64 57344, .int .i64 65535, .int .i64 3] 65)).heap.size = W0.heap.size + 1 := by simp
      have hbb : Below W0.heap.size W0 (W0.alloc (.cells #[.int .i64 57344, .int .i64 65535, .int .i64 3] 65)) := by go_grown
      have HBB := Lib.hid hbb
      have RA := Lib.hid (((ha.next HP0.out).next hBw).next hbb)
      clear hbb
      go_wp2_with fail
      refine (within92 begS 57344 65535 A n c _ hn begS_can (by decide) (by decide) (by decide) RA.out).mono ?_
      rintro e w5 ⟨out, hs, A5, n5, c5, rfl, hown, hb⟩
      have he : out = [] := part_set hs ⟨by decide, by decide⟩ (fun p => ⟨fun h => by simp only [begS, mem_cons, mem_nil, or_false] at h; omega, fun h => absurd h (mem_nil p)⟩)
      subst he
      have HO5 := Lib.hid hown
      have hn5 : n5 = 0 := own_rngs_len hown
      subst hn5
      have HB5 := Lib.hid (HBB.out.trans (hb.mono (by rw [hzb]; omega)))
      have HV5 := Lib.hid (HV.out.next HB5.out)
      have hx1 : w5.cell? ⟨W0.heap.size, 2, none⟩ = some (.int .i64 3) := by rw [hb.cell (p := ⟨W0.heap.size, 2, none⟩) (by rw [hzb]; show W0.heap.size < _; omega)]; exact cell_newb W0 _ _ _ 2 _ rfl rfl
      have hw5 : W0.heap.size < w5.heap.size := by have h := hb.size; rw [hzb] at h; omega
      clear hs hown hb p1 p2 p3
      obtain ⟨Ao, no, co, vs, rfl, h1, h2, h3, h4, h6⟩ := HV5.out
      go_wp2_with fail
      go_loopw [3, 26] (fun v i wr => i = .int .i64 0 ∧ v = .slice Ao no co ∧ wr = w5) (fun _ i _ => 0)
      case atStart => exact ⟨rfl, rfl, rfl⟩
      case round =>
        obtain ⟨rfl, rfl, rfl⟩ := hrel
        go_wp2
        go_roundw
        case rel => exact ⟨4, by decide, by go_num, Ao, no, co, vs, rfl, h1, h2, h3, h4, h6⟩
        case measure => simp [intOf]
    · have p1 := HPP.out W0 HB.out 12 (.int .i64 65536) rfl
      have p2 := HPP.out W0 HB.out 13 (.int .i64 1114111) rfl
      have p3 := HPP.out W0 HB.out 14 (.int .i64 4) rfl
      have hzb : (W0.alloc (.cells #[.int .i64 65536, .int .i64 1114111, .int .i64 4] 65)).heap.size = W0.heap.size + 1 := by simp
      have hbb : Below W0.heap.size W0 (W0.alloc (.cells #[.int .i64 65536, .int .i64 1114111, .int .i64 4] 65)) := by go_grown
      have HBB := Lib.hid hbb
      have RA := Lib.hid (((ha.next HP0.out).next hBw).next hbb)
      clear hbb
      go_wp2_with fail
      refine (within92 begS 65536 1114111 A n c _ hn begS_can (by decide) (by decide) (by decide) RA.out).mono ?_
      rintro e w5 ⟨out, hs, A5, n5, c5, rfl, hown, hb⟩
      have he : out = [] := part_set hs ⟨by decide, by decide⟩ (fun p => ⟨fun h => by simp only [begS, mem_cons, mem_nil, or_false] at h; omega, fun h => absurd h (mem_nil p)⟩)
      subst he
      have HO5 := Lib.hid hown
      have hn5 : n5 = 0 := own_rngs_len hown
      subst hn5
      have HB5 := Lib.hid (HBB.out.trans (hb.mono (by rw [hzb]; omega)))
      have HV5 := Lib.hid (HV.out.next HB5.out)
      have hx1 : w5.cell? ⟨W0.heap.size, 2, none⟩ = some (.int .i64 4) := by rw [hb.cell (p := ⟨W0.heap.size, 2, none⟩) (by rw [hzb]; show W0.heap.size < _; omega)]; exact cell_newb W0 _ _ _ 2 _ rfl rfl
      have hw5 : W0.heap.size < w5.heap.size := by have h := hb.size; rw [hzb] at h; omega
      clear hs hown hb p1 p2 p3
      obtain ⟨Ao, no, co, vs, rfl, h1, h2, h3, h4, h6⟩ := HV5.out
      go_wp2_with fail
      go_loopw [3, 26] (fun v i wr => i = .int .i64 0 ∧ v = .slice Ao no co ∧ wr = w5) (fun _ i _ => 0)
      case atStart => exact ⟨rfl, rfl, rfl⟩
      case round =>
        obtain ⟨rfl, rfl, rfl⟩ := hrel
        go_wp2
        go_roundw
        case rel => exact ⟨5, by decide, by go_num, Ao, no, co, vs, rfl, h1, h2, h3, h4, h6⟩
        case measure => simp [intOf]
end Go.Proofs.YtpdcbddofekbcaaGreat
