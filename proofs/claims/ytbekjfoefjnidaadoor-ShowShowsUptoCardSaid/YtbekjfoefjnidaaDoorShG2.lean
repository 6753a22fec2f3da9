/-
  The tables that show reads; decimal numbers up to 100: the library's, met. A set as show writes it: walked. What is written in brackets, or is not: walked (a deferred call). What may be repeated, written: walked. node of show: kinds without a loop: walked.
-/
import Derived.Test.YtbekjfoefjnidaaDoorShG1
import Derived.Test.YtbekjfoefjnidaaDoorShD
import Derived.Test.YtbekjfoefjnidaaDoorShelf
import Derived.Lib.AppendIntMem
import Derived.Deep.RegionWith
import Derived.Defers
import Derived.Deep.DeepCutAuto
namespace Go.Proofs.YtbekjfoefjnidaaDoor
open Go.RowKit
set_option linter.unusedVariables false
def Tabs (w : World) : Prop := TabH w ∧ Lib.TabIs Tryd.prog w "internal/strconv.uint64pow10" .u64 Lib.pow10Tab
theorem Tabs.below {B : Nat} {w w' : World} (h : Tabs w) (hb : Below B w w') (hB : 2 < B) : Tabs w' := by
  obtain ⟨⟨h1, h2⟩, h3⟩ := h
  refine ⟨⟨by rw [hb.cell (p := ⟨2, 15, none⟩) hB]; exact h1, Nat.lt_of_lt_of_le h2 hb.size⟩, ?_⟩
  have hg : Tryd.prog.globalNamed "internal/strconv.uint64pow10" = some 0 := by kernel_rfl
  unfold Lib.TabIs World.var? at *
  rw [hg] at h3 ⊢
  simp only [Option.bind_some] at h3 ⊢
  rw [hb.block 0 (by omega)]
  exact h3
theorem Tabs.next {w w' : World} (h : Tabs w) (hb : Below w.heap.size w w') : Tabs w' := h.below hb h.1.2
theorem itoa37 (n : Int) (w : World) (h0 : 0 ≤ n) (h1 : n ≤ 100) (ht : Tabs w) :
    Calls Tryd.prog 37 #[.int .i64 n] w fun e w' => e = .returned (.string ⟨(decT n).toArray⟩) ∧ Below w.heap.size w w' := by
  refine (Tryd.strconv_Itoa n (by omega) (by omega) w ht.2).mono ?_
  rintro e w' ⟨rfl, k, os, rfl⟩
  refine ⟨?_, Lib.below_grow _ _ (Nat.le_refl _) k os⟩
  unfold Lib.itoa decT
  rw [if_neg (by omega)]
open Go.Maps in
/-- the map of names: what each number reads as -/
def NmMap (g : Nat) (nm : Int → List UInt8) (w : World) : Prop := ∃ n D, w.ownsMap (H := Unit) Tryd.prog 3 ps g n D ∧ ∀ k : Int, (Lit.int .i64 k).wf = true → D.atKey (.int .i64 k) (.lit (.string [])) = .lit (.string (nm k))
theorem NmMap.lt {g : Nat} {nm : Int → List UInt8} {w : World} (h : NmMap g nm w) : g < w.heap.size := by
  obtain ⟨n, D, h, _⟩ := h
  exact h.lt
theorem NmMap.below {g B : Nat} {nm : Int → List UInt8} {w w' : World} (h : NmMap g nm w) (hb : Below B w w') (hB : g < B) : NmMap g nm w' := by
  obtain ⟨n, D, ⟨es, clock, h1, h2⟩, h3⟩ := h
  exact ⟨n, D, ⟨es, clock, by rw [hb.block g hB]; exact h1, h2⟩, h3⟩
open Go.Maps in
theorem NmMap.look {g : Nat} {nm : Int → List UInt8} {w : World} (h : NmMap g nm w) (k : Int) (hk : (Lit.int .i64 k).wf = true) : (Instr.lookup 52 (.map (some g)) (.int .i64 k) false).run Tryd.prog w = .ok (.string ⟨(nm k).toArray⟩) w := by
  obtain ⟨n, D, h1, h2⟩ := h
  exact lookS h1 k hk (h2 k hk)
/-- texts written, from a row of texts just laid -/
theorem putN (b g : Nat) (bs : List Value) (l : List ByteArray) (w : World) (h : IsWr b g bs w) (hlen : bs.length + (catC l).length ≤ 140737488355328) (hll : l.length ≤ 1000000) :
    Calls Tryd.prog 33 #[.pointer (some ⟨b, 0, none⟩), .slice (some ⟨w.heap.size, 0, none⟩) l.length l.length] (w.alloc (.cells (l.map Value.string).toArray 9)) fun e w' => e = .returned (.tuple #[]) ∧ IsWr b g (bs ++ catC l) w' ∧ Wrote b w w' := by
  have hlt := h.lt
  have hb := (Below.refl w.heap.size w).alloc (Nat.le_refl _) (.cells (l.map Value.string).toArray 9)
  refine (put33 b g w.heap.size bs l _ (h.next hb) (heap_alloc_new _ _) (by omega) hlen hll).mono ?_
  rintro e w' ⟨rfl, h1, h2⟩
  exact ⟨rfl, h1, (Wrote.of hb (Nat.le_of_lt hlt)).trans h2⟩
theorem catC_nil : catC [] = [] := rfl
theorem catC_cons (s : ByteArray) (l : List ByteArray) : catC (s :: l) = Lib.strCells s ++ catC l := by simp [catC]
theorem byteCells_app (a b : List UInt8) : Lib.byteCells (a ++ b) = Lib.byteCells a ++ Lib.byteCells b := by simp [Lib.byteCells]
theorem catC_mk (l : List (List UInt8)) : catC (l.map fun x => ⟨x.toArray⟩) = Lib.byteCells l.flatten := by
  induction l with
  | nil => rfl
  | cons x l ih => rw [List.map_cons, catC_cons, ih, List.flatten_cons, byteCells_app]; rfl
theorem byteCells_len (a : List UInt8) : (Lib.byteCells a).length = a.length := by simp [Lib.byteCells]
end Go.Proofs.YtbekjfoefjnidaaDoor
namespace Go.Proofs.YtbekjfoefjnidaaDoor
open Go.RowKit
set_option linter.unusedVariables false
theorem strC (l : List UInt8) : Lib.strCells ⟨l.toArray⟩ = Lib.byteCells l := rfl
set_option maxRecDepth 100000 in
set_option maxHeartbeats 4000000 in
theorem set34_none (b g : Nat) (bs : List Value) (A : Option Addr) (c : Nat) (w : World) (h : IsWr b g bs w) (ht : Tabs w) (hlen : bs.length ≤ 140000000000000) :
    Calls Tryd.prog 34 #[.pointer (some ⟨b, 0, none⟩), .slice A 0 c] w fun e w' => e = .returned (.tuple #[]) ∧ IsWr b g (bs ++ Lib.byteCells (setT [])) w' ∧ Wrote b w w' := by
  have C := Lib.hid (fun (n : Int) (w' : World) (h0 : 0 ≤ n) (h1 : n ≤ 1114111) (hb : Below w.heap.size w w') => (hex44 n w' h0 h1 (ht.next hb).1).mono (fun e w2 h => (⟨h.1, below_next hb h.2⟩ : e = .returned (.string ⟨(hexP n).toArray⟩) ∧ Below w.heap.size w w2)))
  have HL := Lib.hid (show (catC [⟨#[91, 94]⟩, ⟨(hexP 0).toArray⟩, ⟨#[45]⟩, ⟨(hexP 1114111).toArray⟩, ⟨#[93]⟩]) = Lib.byteCells (setT []) from (catC_mk [[91, 94], hexP 0, [45], hexP 1114111, [93]]).trans (congrArg _ (by simp [setT, rngT])))
  have hl := setT_len (s := []) (by decide)
  have CP := Lib.hid (fun (w' : World) (hb : Below w.heap.size w w') => putN b g bs [⟨#[91, 94]⟩, ⟨(hexP 0).toArray⟩, ⟨#[45]⟩, ⟨(hexP 1114111).toArray⟩, ⟨#[93]⟩] w' (h.next hb) (by rw [HL.out, byteCells_len]; omega) (by simp))
  have hlt := h.lt
  rw [HL.out] at CP
  simp only [List.map_cons, List.map_nil, List.length_cons, List.length_nil, Nat.zero_add, Nat.reduceAdd] at CP
  clear h ht hl
  go_enter Tryd.func34, Tryd.ntmps34
  go_wp2_with (first
    | (go_at_call 44; refine (C.out _ _ (by decide) (by decide) (Below.refl _ _)).mono ?_; rintro e w1 ⟨rfl, hb1⟩; have HB1 := Lib.hid hb1; clear hb1)
    | (go_at_call 44; refine (C.out _ _ (by decide) (by decide) HB1.out).mono ?_; rintro e w2 ⟨rfl, hb2⟩; have HB2 := Lib.hid hb2; clear hb2)
    | (go_at_call 33; refine (CP.out _ HB2.out).mono ?_; rintro e w3 ⟨rfl, h1, h2⟩; have H1 := Lib.hid h1; have H2 := Lib.hid h2; clear h1 h2))
  refine bodyPost_ret (results_none rfl _ _ _) rfl ?_
  exact ⟨rfl, H1.out, (Wrote.of HB2.out (Nat.le_of_lt hlt)).trans H2.out⟩
theorem rngT_take (s : List (Int × Int)) (k : Nat) (h : k < s.length) : (s.take (k + 1)).flatMap rngT = (s.take k).flatMap rngT ++ rngT s[k] := by
  rw [List.take_succ_eq_append_getElem h, List.flatMap_append]; simp
set_option maxRecDepth 100000 in
set_option maxHeartbeats 8000000 in
theorem set34_some (b g : Nat) (bs : List Value) (s : List (Int × Int)) (A : Option Addr) (n c : Nat) (w : World) (h : IsWr b g bs w) (ht : Tabs w) (h2 : 2 < b) (hs : Rds w b 2 A n (rngs s)) (hn : 0 < n) (hp : s.length ≤ 400 ∧ ∀ r ∈ s, 0 ≤ r.1 ∧ r.1 ≤ r.2 ∧ r.2 ≤ 1114111) (hlen : bs.length ≤ 140000000000000) :
    Calls Tryd.prog 34 #[.pointer (some ⟨b, 0, none⟩), .slice A n c] w fun e w' => e = .returned (.tuple #[]) ∧ IsWr b g (bs ++ Lib.byteCells (setT s)) w' ∧ Wrote b w w' := by
  have hnl := hs.rngs_len
  have hn400 : n ≤ 400 := by omega
  have HT := Lib.hid ht
  have HS := Lib.hid hs
  have HP := Lib.hid hp.2
  have HN := Lib.hid hnl
  have hlt := h.lt
  have C0 := Lib.hid (putN b g bs [⟨#[91]⟩] w h (by show bs.length + 1 ≤ _; omega) (by simp))
  have CE := Lib.hid (fun (bs' : List Value) (w' : World) (h' : IsWr b g bs' w') (hl : bs'.length ≤ 140000000010000) => putN b g bs' [⟨#[93]⟩] w' h' (by show bs'.length + 1 ≤ _; omega) (by simp))
  simp only [List.map_cons, List.map_nil, List.length_cons, List.length_nil, Nat.zero_add] at C0 CE
  clear h ht hs hp hnl
  go_enter Tryd.func34, Tryd.ntmps34
  go_upto_region 4 with (go_at_call 33; refine C0.out.mono ?_; rintro e w1 ⟨rfl, h1, h2⟩; have H1 := Lib.hid h1; have H2 := Lib.hid h2; clear h1 h2)
  go_loopw [19] (fun i wr => ∃ k : Nat, k ≤ n ∧ i = .int .i64 k ∧ Hid (IsWr b g (bs ++ Lib.byteCells ([91] ++ (s.take k).flatMap rngT)) wr) ∧ Hid (Wrote b w wr)) (fun i _ => n - (intOf i).toNat)
  case atStart => exact ⟨0, Nat.zero_le _, rfl, H1, H2⟩
  case round =>
    obtain ⟨k, hk, rfl, HI, HB⟩ := hrel
    by_cases hlt : k < n
    · obtain ⟨ab, off, hl, rfl, hab, c0, c1⟩ := (HS.out.below HB.out.below (Nat.le_refl _)).rng_at hlt
      have hp := HP.out s[k] (List.getElem_mem hl)
      have HT2 := Lib.hid (rngT_take s k hl)
      have hrl := rngT_len (r := s[k]) (by omega) hp.2.2
      have hfl := flat_len (s := s.take k) (fun r hr => HP.out r (List.mem_of_mem_take hr))
      have hkl : (s.take k).length ≤ 400 := by rw [List.length_take]; omega
      have HLB := Lib.hid (show (bs ++ Lib.byteCells ([91] ++ (s.take k).flatMap rngT)).length + (rngT s[k]).length ≤ 140000000020000 by rw [List.length_append, byteCells_len, List.length_append]; simp only [List.length_cons, List.length_nil]; omega)
      have hsz : b < wr.heap.size := HI.out.lt
      obtain ⟨p, hp'⟩ : ∃ p, p = s[k] := ⟨_, rfl⟩
      rw [← hp'] at c0 c1 hp HT2 HLB
      clear hp' hrl hfl hkl
      obtain ⟨x, y⟩ := p
      simp only at c0 c1 hp
      obtain ⟨hx0, hxy, hy1⟩ := hp
      have hx1 : x ≤ 1114111 := by omega
      have hy0 : 0 ≤ y := by omega
      have hb0 := (Below.refl wr.heap.size wr).alloc (Nat.le_refl _) (.cells #[.int .i64 x, .int .i64 y] 64)
      have hnew := heap_alloc_new wr (.cells #[.int .i64 x, .int .i64 y] 64)
      go_upto_region 6 with (fail)
      generalize hW : wr.alloc (.cells #[.int .i64 x, .int .i64 y] 64) = W at *
      clear hW
      have z0 : W.cell? ⟨wr.heap.size, 0, none⟩ = some (.int .i64 x) := by rw [Lib.cell_of_heap hnew]; rfl
      have z1 : W.cell? ⟨wr.heap.size, 1, none⟩ = some (.int .i64 y) := by rw [Lib.cell_of_heap hnew]; rfl
      have hWs : wr.heap.size < W.heap.size := by
        rcases Nat.lt_or_ge wr.heap.size W.heap.size with h' | h'
        · exact h'
        · rw [Array.getElem?_eq_none h'] at hnew; cases hnew
      have KC := Lib.hid (fun (w' : World) (hb : Below W.heap.size W w') => (⟨by rw [hb.cell (p := ⟨wr.heap.size, 0, none⟩) hWs]; exact z0, by rw [hb.cell (p := ⟨wr.heap.size, 1, none⟩) hWs]; exact z1⟩ : w'.cell? ⟨wr.heap.size, 0, none⟩ = some (.int .i64 x) ∧ w'.cell? ⟨wr.heap.size, 1, none⟩ = some (.int .i64 y)))
      have HWI := Lib.hid (HI.out.next hb0)
      have HWB := Lib.hid (HB.out.trans (Wrote.of hb0 (Nat.le_of_lt hsz)))
      have HTW := Lib.hid (HT.out.below HWB.out.below h2)
      have C44 := Lib.hid (fun (z : Int) (w' : World) (h0 : 0 ≤ z) (h1 : z ≤ 1114111) (hb : Below W.heap.size W w') => (hex44 z w' h0 h1 (HTW.out.next hb).1).mono (fun e w2 h => (⟨h.1, below_next hb h.2⟩ : e = .returned (.string ⟨(hexP z).toArray⟩) ∧ Below W.heap.size W w2)))
      have HCL := Lib.hid (show catC [⟨(hexP x).toArray⟩, ⟨#[45]⟩, ⟨(hexP y).toArray⟩] = Lib.byteCells (rngT (x, y)) from (catC_mk [hexP x, [45], hexP y]).trans (congrArg _ (by simp [rngT])))
      have C33 := Lib.hid (fun (w' : World) (hb : Below W.heap.size W w') => putN b g _ [⟨(hexP x).toArray⟩, ⟨#[45]⟩, ⟨(hexP y).toArray⟩] w' (HWI.out.next hb) (by rw [HCL.out, byteCells_len]; exact Nat.le_trans HLB.out (by decide)) (by simp))
      simp only [List.map_cons, List.map_nil, List.length_cons, List.length_nil, Nat.zero_add, Nat.reduceAdd] at C33
      have B0 := Lib.hid (below_drewN (Below.refl W.heap.size W) 1)
      clear hnew hb0
      go_region_with ((first
        | (go_at_call 44; refine (C44.out _ _ (by assumption) (by assumption) (by first | exact HBa.out | exact B0.out)).mono ?_; rintro e wa ⟨rfl, hb⟩; have HBa := Lib.hid hb; obtain ⟨z0, z1⟩ := KC.out _ hb; clear hb)
        | (go_at_call 33; refine (C33.out _ HBa.out).mono ?_; rintro e wb ⟨rfl, h1, h2⟩; have HE1 := Lib.hid h1; have HE2 := Lib.hid h2; clear h1 h2)))
      all_goals
        clear z0 z1
        have HF := Lib.hid (show IsWr b g (bs ++ Lib.byteCells ([91] ++ (s.take (k + 1)).flatMap rngT)) wb by
          have h := HE1.out
          rw [HCL.out, List.append_assoc, ← byteCells_app, List.append_assoc, ← HT2.out] at h
          exact h)
        have HG := Lib.hid (HWB.out.trans ((Wrote.of HBa.out (by omega)).trans HE2.out))
        go_wp2_with fail
        go_roundw
        case rel => exact ⟨k + 1, by omega, by go_num, HF, HG⟩
        case measure => simp [intOf]; omega
    · obtain rfl : k = n := by omega
      have HT2 := Lib.hid (show bs ++ Lib.byteCells ([91] ++ (s.take k).flatMap rngT) ++ catC [⟨#[93]⟩] = bs ++ Lib.byteCells (setT s) by
        have e : s.take k = s := List.take_of_length_le (by have := HN.out; omega)
        have e2 : s ≠ [] := by intro e; have := HN.out; rw [e] at this; simp at this; omega
        rw [e, show catC [⟨#[93]⟩] = Lib.byteCells [93] from rfl, List.append_assoc, ← byteCells_app, setT, if_neg e2])
      have hfl := flat_len (s := s.take k) (fun r hr => HP.out r (List.mem_of_mem_take hr))
      have hkl : (s.take k).length ≤ 400 := by rw [List.length_take]; omega
      have C1 := Lib.hid (CE.out _ wr HI.out (by rw [List.length_append, byteCells_len, List.length_append]; simp only [List.length_cons, List.length_nil]; omega))
      rw [HT2.out] at C1
      clear hfl hkl
      go_wp2_with (go_at_call 33; refine C1.out.mono ?_; rintro e wb ⟨rfl, h1, h2⟩; have HE1 := Lib.hid h1; have HE2 := Lib.hid h2; clear h1 h2)
      go_end0
      exact ⟨rfl, HE1.out, HB.out.trans HE2.out⟩
theorem set34 (b g : Nat) (bs : List Value) (s : List (Int × Int)) (A : Option Addr) (n c : Nat) (w : World) (h : IsWr b g bs w) (ht : Tabs w) (h2 : 2 < b) (hs : Rds w b 2 A n (rngs s)) (hp : chk s = 0) (hlen : bs.length ≤ 140000000000000) :
    Calls Tryd.prog 34 #[.pointer (some ⟨b, 0, none⟩), .slice A n c] w fun e w' => e = .returned (.tuple #[]) ∧ IsWr b g (bs ++ Lib.byteCells (setT s)) w' ∧ Wrote b w w' := by
  rcases Nat.eq_zero_or_pos n with h0 | h0
  · subst h0
    have := hs.rngs_len
    obtain rfl : s = [] := List.eq_nil_of_length_eq_zero this
    exact set34_none b g bs A c w h ht hlen
  · exact set34_some b g bs s A n c w h ht h2 hs h0 (chk_points hp) hlen
end Go.Proofs.YtbekjfoefjnidaaDoor
namespace Go.Proofs.YtbekjfoefjnidaaDoor
open Go.RowKit
set_option linter.unusedVariables false
set_option maxHeartbeats 2000000 in
set_option maxRecDepth 100000 in
theorem put33d (u : FrameMode) (b g r : Nat) (bs : List Value) (l : List ByteArray) (w : World) (h : IsWr b g bs w) (hr : w.heap[r]? = some (.cells (l.map Value.string).toArray 9 (0, 0))) (hrb : r ≠ b) (hlen : bs.length + (catC l).length ≤ 140737488355328) (hll : l.length ≤ 1000000) :
    CallsD Tryd.prog 33 #[.pointer (some ⟨b, 0, none⟩), .slice (some ⟨r, 0, none⟩) l.length l.length] u w fun e u' w' => u' = u ∧ (e = .returned (.tuple #[]) ∧ IsWr b g (bs ++ catC l) w' ∧ Wrote b w w') := by
  have HW := Lib.hid h
  have HR := Lib.hid hr
  clear h hr
  go_enter_d Tryd.func33, Tryd.ntmps33
  go_wp2_with fail
  go_loopw [8] (fun i wr => ∃ k : Nat, k ≤ l.length ∧ i = .int .i64 k ∧ Hid (IsWr b g (bs ++ catC (l.take k)) wr) ∧ Hid (Wrote b w wr)) (fun i _ => l.length - (intOf i).toNat)
  case atStart => exact ⟨0, Nat.zero_le _, rfl, Lib.hid (by simpa [catC] using HW.out), Lib.hid (Wrote.refl _ _)⟩
  case round =>
    obtain ⟨k, hk, rfl, HI, HB⟩ := hrel
    by_cases hlt : k < l.length
    · have hrow := HB.out.row HR.out hrb (by decide)
      have c : wr.cell? ⟨r, k, none⟩ = some (.string l[k]) := by rw [Lib.cell_of_heap hrow]; simp [hlt]
      have HT := Lib.hid (catC_take l k hlt)
      have hl2 := catC_len_take l (k + 1)
      rw [HT.out, List.length_append, Lib.strCells_length] at hl2
      have C := Lib.hid (writeString43 b g (bs ++ catC (l.take k)) l[k] wr HI.out (by rw [List.length_append]; omega))
      obtain ⟨s, hs⟩ : ∃ s, s = l[k] := ⟨_, rfl⟩
      rw [← hs] at c HT C
      clear hs hrow hl2
      have i1 : (0 : Int) ≤ (k : Int) := by omega
      have i2 : (k : Int) < (l.length : Int) := by omega
      go_wp2_with (go_at_call 43; refine C.out.mono ?_; rintro e w' ⟨rfl, h1, h2⟩; have H1 := Lib.hid h1; have H2 := Lib.hid (HB.out.trans h2); clear h1 h2)
      go_roundw
      case rel => exact ⟨k + 1, by omega, by go_num, Lib.hid (.inr (by rw [HT.out, ← List.append_assoc]; exact H1.out)), H2⟩
      case measure => simp [intOf]; omega
    · obtain rfl : k = l.length := by omega
      rw [List.take_length] at HI
      go_wp2_with fail
      go_end0
      exact ⟨rfl, HI.out, HB.out⟩
/-- what a writer's call may lean on -/
structure Scn (b g : Nat) (nm : Int → List UInt8) (w : World) : Prop where
  tabs : Tabs w
  names : NmMap g nm w
  gb : g < b
  two : 2 < b
theorem Scn.below {b g B : Nat} {nm : Int → List UInt8} {w w' : World} (h : Scn b g nm w) (hb : Below B w w') (hB : b ≤ B) : Scn b g nm w' :=
  ⟨h.tabs.below hb (Nat.lt_of_lt_of_le h.two hB), h.names.below hb (Nat.lt_of_lt_of_le h.gb hB), h.gb, h.two⟩
theorem Scn.wrote {b g : Nat} {nm : Int → List UInt8} {w w' : World} (h : Scn b g nm w) (hb : Wrote b w w') : Scn b g nm w' := h.below hb.below (Nat.le_refl _)
theorem NodeAt.under {b : Nat} {t : Tr} {d : ND} {w w' : World} (h : NodeAt w b t d) (hb : Below b w w') : NodeAt w' b t d := NodeAt.map (fun r => r.below hb (Nat.le_refl _)) _ _ h
theorem BoxN.kept {b k : Nat} {d : ND} {w w' : World} (hx : BoxN w k d) (hb : Wrote b w w') (hT : ∃ cs fr, w.heap[k]? = some (.cells cs 25 fr)) (hk : k ≠ b) : BoxN w' k d := by
  obtain ⟨cs, fr, hh⟩ := hT
  have e := hb.keep k hx.1 hk (fun cs' fr' e => by rw [hh] at e; injection e with e; injection e with _ e _; exact absurd e (by decide))
  have hc : ∀ j, w'.cell? ⟨k, j, none⟩ = w.cell? ⟨k, j, none⟩ := fun j => World.cell?_of_block (a := ⟨k, j, none⟩) e
  obtain ⟨h0, h1, h2, h3, h4, h5, h6, h7, h8⟩ := hx
  exact ⟨Nat.lt_of_lt_of_le h0 hb.below.size, by rw [hc]; exact h1, by rw [hc]; exact h2, by rw [hc]; exact h3, by rw [hc]; exact h4, by rw [hc]; exact h5, by rw [hc]; exact h6, by rw [hc]; exact h7, by rw [hc]; exact h8⟩
theorem box_heap (w : World) (d : ND) : ∃ cs fr, (d.box w).heap[w.heap.size]? = some (.cells cs 25 fr) := ⟨_, _, heap_alloc_new w _⟩
/-- what a call of node writes -/
def Puts (b g : Nat) (bs : List Value) (x : List UInt8) (w : World) (e : Ending) (w' : World) : Prop := e = .returned (.tuple #[]) ∧ IsWr b g (bs ++ Lib.byteCells x) w' ∧ Wrote b w w'
def Law21 (b g : Nat) (nm : Int → List UInt8) (t : Tr) : Prop := ∀ (bs : List Value) (d : ND) (w : World), IsWr b g bs w → NodeAt w b t d → Scn b g nm w → bs.length + (showT nm t).length ≤ 140000000000000 →
    Calls Tryd.prog 21 #[.pointer (some ⟨b, 0, none⟩), d.agg] w (Puts b g bs (showT nm t) w)
set_option maxRecDepth 100000 in
set_option maxHeartbeats 4000000 in
theorem wrapped35 (b g : Nat) (nm : Int → List UInt8) (t : Tr) (H : Law21 b g nm t) (bs : List Value) (d : ND) (must : Bool) (w : World) (h : IsWr b g bs w) (hn : NodeAt w b t d) (hs : Scn b g nm w) (hlen : bs.length + (wrapT must (showT nm t)).length ≤ 140000000000000) :
    Calls Tryd.prog 35 #[.pointer (some ⟨b, 0, none⟩), d.agg, .bool must] w (Puts b g bs (wrapT must (showT nm t)) w) := by
  have hlt := h.lt
  have HB0 := Lib.hid (ND.box_below w d)
  have HX0 := Lib.hid (BoxN.new w d)
  have hbs := ND.box_size w d
  obtain ⟨W, hW⟩ : ∃ W, W = d.box w := ⟨_, rfl⟩
  cases must
  · unfold wrapT at hlen ⊢
    simp only [Bool.false_eq_true, if_false] at hlen ⊢
    have C := Lib.hid (H bs d (d.box w) (h.next HB0.out) (hn.under (HB0.out.mono (Nat.le_of_lt hlt))) (hs.below HB0.out (Nat.le_of_lt hlt)) hlen)
    have HWR := Lib.hid (Wrote.of (b := b) HB0.out (Nat.le_of_lt hlt))
    clear h hn hs hlen H
    obtain ⟨dk, dsA, dsn, dsc, dkA, dkn, dkc, dnum, dleast, dmost, dway, dfold⟩ := d
    unfold ND.agg at C ⊢
    unfold ND.box at hW HX0 C HWR
    simp only at HX0 C HWR ⊢
    obtain ⟨v0, v1, v2, v3, v4, v5, v6, v7, v8⟩ := HX0.out
    rw [← hW] at v0 v1 v2 v3 v4 v5 v6 v7 v8 C HWR
    go_enter_defers Tryd.func35, Tryd.ntmps35
    go_upto_region 1 with (fail)
    rw [← hW]
    clear hW
    go_wp2_with (go_at_call 21; refine C.out.mono ?_; rintro e w' ⟨rfl, h1, h2⟩; have H1 := Lib.hid h1; have H2 := Lib.hid h2; clear h1 h2)
    exact ⟨_, results_none rfl _ _ _, rfl, H1.out, HWR.out.trans H2.out⟩
  · unfold wrapT at hlen ⊢
    simp only [if_true] at hlen ⊢
    simp only [List.length_append, List.length_cons, List.length_nil] at hlen
    have h1 := h.next HB0.out
    have hWl : b ≤ (d.box w).heap.size := by rw [hbs]; omega
    have C1 := Lib.hid (putN b g bs [⟨#[40, 63, 58]⟩] (d.box w) h1 (by show bs.length + 3 ≤ _; omega) (by simp))
    have HE := Lib.hid (fun (w1 : World) (h2 : IsWr b g (bs ++ catC [⟨#[40, 63, 58]⟩]) w1) (hb : Wrote b (d.box w) w1) =>
      (H (bs ++ Lib.byteCells [40, 63, 58]) d (w1.alloc (.cells #[.string ⟨#[41]⟩] 9)) (h2.next ((Below.refl _ _).alloc (Nat.le_refl _) _)) ((hn.under (HB0.out.mono (Nat.le_of_lt hlt))).under (hb.below.alloc (Nat.le_of_lt h2.lt) _)) ((hs.below HB0.out (Nat.le_of_lt hlt)).below (hb.below.alloc (Nat.le_of_lt h2.lt) _) (Nat.le_refl _)) (by rw [List.length_append, byteCells_len]; simp only [List.length_cons, List.length_nil]; omega)))
    have HD := Lib.hid (fun (w1 w2 : World) (h1 : b < w1.heap.size) (h2 : IsWr b g (bs ++ Lib.byteCells [40, 63, 58] ++ Lib.byteCells (showT nm t)) w2) (hb : Wrote b (w1.alloc (.cells #[.string ⟨#[41]⟩] 9)) w2) =>
      put33d .returning b g w1.heap.size (bs ++ Lib.byteCells [40, 63, 58] ++ Lib.byteCells (showT nm t)) [⟨#[41]⟩] w2 h2 (hb.row (heap_alloc_new w1 _) (by omega) (by decide)) (by omega) (by rw [List.length_append, List.length_append, byteCells_len, byteCells_len]; show _ + 1 ≤ _; simp only [List.length_cons, List.length_nil]; omega) (by simp))
    have HXT := Lib.hid (fun (w1 : World) (hb : Wrote b (d.box w) w1) => (HX0.out.kept hb (box_heap w d) (by omega) : BoxN w1 w.heap.size d))
    have HWR := Lib.hid (Wrote.of (b := b) HB0.out (Nat.le_of_lt hlt))
    have HEQ := Lib.hid (show bs ++ Lib.byteCells [40, 63, 58] ++ Lib.byteCells (showT nm t) ++ catC [⟨#[41]⟩] = bs ++ Lib.byteCells ([40, 63, 58] ++ showT nm t ++ [41]) by
      rw [show catC [⟨#[41]⟩] = Lib.byteCells [41] from rfl, List.append_assoc, List.append_assoc, byteCells_app, byteCells_app, List.append_assoc])
    simp only [List.map_cons, List.map_nil, List.length_cons, List.length_nil, Nat.zero_add] at C1 HD
    clear h hn hs hlen H h1
    obtain ⟨dk, dsA, dsn, dsc, dkA, dkn, dkc, dnum, dleast, dmost, dway, dfold⟩ := d
    unfold ND.agg at HE ⊢
    unfold ND.box at hW HX0 C1 HE HXT HWR hWl
    simp only at HX0 C1 HE HXT HWR hWl ⊢
    rw [← hW] at C1 HE HXT HWR hWl
    go_enter_defers Tryd.func35, Tryd.ntmps35
    go_upto_region 1 with (fail)
    rw [← hW]
    clear hW
    go_wp2_with (first
      | (go_at_call 33; refine C1.out.mono ?_; rintro e w1 ⟨rfl, h1, h2⟩; have H1 := Lib.hid h1; have H2 := Lib.hid h2; obtain ⟨v0, v1, v2, v3, v4, v5, v6, v7, v8⟩ := HXT.out w1 h2; clear h1 h2)
      | (go_at_call 21; refine (HE.out w1 H1.out H2.out).mono ?_; rintro e w2 ⟨rfl, h1, h2⟩; have H3 := Lib.hid h1; have H4 := Lib.hid h2; clear h1 h2))
    refine leaves_cons (f := 33) (args := #[.pointer (some ⟨b, 0, none⟩), .slice (some ⟨w1.heap.size, 0, none⟩) 1 1]) (by simp) (by simp [go_sem]) ?_
    refine (HD.out w1 w2 H1.out.lt H3.out H4.out).mono ?_
    rintro e u' w3 ⟨rfl, rfl, h1, h2⟩
    rw [HEQ.out] at h1
    exact ⟨_, results_none rfl _ _ _, rfl, h1, HWR.out.trans (H2.out.trans ((Wrote.of ((Below.refl _ _).alloc (Nat.le_refl _) _) (Nat.le_of_lt H1.out.lt)).trans (H4.out.trans h2)))⟩
end Go.Proofs.YtbekjfoefjnidaaDoor
namespace Go.Proofs.YtbekjfoefjnidaaDoor
open Go.RowKit
set_option linter.unusedVariables false
theorem node_kid0 {w : World} {b : Nat} {t : Tr} {d : ND} (h : NodeAt w b t d) (h1 : t.kids.length = 1) : ∃ k0 d0, t.kids = [k0] ∧ NodeAt w b k0 d0 ∧ 0 < d.kn ∧ Rds w b 8 d.kA d.kn (nds [d0]) := by
  obtain ⟨ds, hn⟩ := h.of
  have hk := hn.knum
  have he := hn.each
  have hr := hn.kids
  obtain ⟨k0, e⟩ : ∃ k0, t.kids = [k0] := by
    match hh : t.kids, h1 with
    | [x], _ => exact ⟨x, rfl⟩
  rw [e] at he
  cases he with
  | cons h0 hs => cases hs; exact ⟨k0, _, e, h0, by have := hk.1; omega, hr⟩
set_option maxRecDepth 100000 in
set_option maxHeartbeats 8000000 in
theorem repeat36 (b g : Nat) (nm : Int → List UInt8) (t k0 : Tr) (H : Law21 b g nm k0) (bs : List Value) (d d0 : ND) (w : World) (h : IsWr b g bs w) (hs : Scn b g nm w) (hkn : 0 < d.kn) (hk : Rds w b 8 d.kA d.kn (nds [d0])) (hn0 : NodeAt w b k0 d0)
    (hl : 0 ≤ d.least ∧ d.least ≤ 100) (hm : -1 ≤ d.most ∧ d.most ≤ 100) (hw : 1 ≤ d.way ∧ d.way ≤ 3) (hlen : bs.length + (repT (k0.kind, showT nm k0) d.least d.most d.way).length ≤ 140000000000000) :
    Calls Tryd.prog 36 #[.pointer (some ⟨b, 0, none⟩), d.agg] w (Puts b g bs (repT (k0.kind, showT nm k0) d.least d.most d.way) w) := by
  have hlt := h.lt
  have HB0 := Lib.hid (ND.box_below w d)
  have HX0 := Lib.hid (BoxN.new w d)
  have hbs := ND.box_size w d
  obtain ⟨ab, off, hl0, hA, hab, c0, c1, c2, c3, c4, c5, c6, c7⟩ := (hk.below HB0.out (Nat.le_of_lt hlt)).node_at hkn
  simp only [List.getElem_cons_zero, Nat.zero_mul, Nat.add_zero] at c0 c1 c2 c3 c4 c5 c6 c7
  have hkd : d0.kind = k0.kind := by obtain ⟨_, hh⟩ := hn0.of; exact hh.kind
  have HB1 := Lib.hid (below_next HB0.out (ND.box_below (d.box w) d0))
  have HI2 := Lib.hid (h.next HB1.out)
  have HS2 := Lib.hid (hs.below HB1.out (Nat.le_of_lt hlt))
  have HN2 := Lib.hid (hn0.under (HB1.out.mono (Nat.le_of_lt hlt)))
  have HX1 := Lib.hid (BoxN.new (d.box w) d0)
  have HX2 := Lib.hid (HX0.out.next (ND.box_below (d.box w) d0))
  have HW2 := Lib.hid (Wrote.of (b := b) HB1.out (Nat.le_of_lt hlt))
  have HH2 := Lib.hid (show ∃ cs fr, (d0.box (d.box w)).heap[w.heap.size]? = some (.cells cs 25 fr) by
    obtain ⟨cs, fr, e⟩ := box_heap w d
    exact ⟨cs, fr, by rw [(ND.box_below (d.box w) d0).block _ (by rw [hbs]; omega)]; exact e⟩)
  have hbne : w.heap.size ≠ b := by omega
  have HLEN := Lib.hid hlen
  rw [hkd] at c0
  clear h hs hk hn0 hlen
  obtain ⟨dk, dsA, dsn, dsc, dkA, dkn, dkc, dnum, dleast, dmost, dway, dfold⟩ := d
  obtain ⟨ek, esA, esn, esc, ekA, ekn, ekc, enum, eleast, emost, eway, efold⟩ := d0
  simp only at hkd hA
  subst hkd hA
  obtain ⟨kk, hkk⟩ : ∃ kk, kk = k0.kind := ⟨_, rfl⟩
  rw [← hkk] at c0 HN2 HX1 HI2 HS2 HX2 HW2 HH2 HB1 HLEN ⊢
  have HKK := Lib.hid hkk
  clear hkk
  unfold ND.box at HX0 HX1 HI2 HS2 HN2 HX2 HW2 HH2 c0 c1 c2 c3 c4 c5 c6 c7 hbs
  unfold ND.agg
  simp only at HX0 HX1 HI2 HS2 HN2 HX2 HW2 HH2 hl hm hw hkn hbs c0 c1 c2 c3 c4 c5 c6 c7 HLEN ⊢
  obtain ⟨v0, v1, v2, v3, v4, v5, v6, v7, v8⟩ := HX0.out
  go_enter Tryd.func36, Tryd.ntmps36
  go_upto_region 2 with (fail)
  have hw2s : ((w.alloc (.cells #[.int .i64 dk, .slice dsA dsn dsc, .slice (some ⟨ab, off, none⟩) dkn dkc, .int .i64 dnum, .int .i64 dleast, .int .i64 dmost, .int .i64 dway, .bool dfold] 25)).alloc (.cells #[.int .i64 kk, .slice esA esn esc, .slice ekA ekn ekc, .int .i64 enum, .int .i64 eleast, .int .i64 emost, .int .i64 eway, .bool efold] 25)).heap.size = w.heap.size + 2 := by simp
  rw [hbs] at HX1
  generalize hW : (w.alloc (.cells #[.int .i64 dk, .slice dsA dsn dsc, .slice (some ⟨ab, off, none⟩) dkn dkc, .int .i64 dnum, .int .i64 dleast, .int .i64 dmost, .int .i64 dway, .bool dfold] 25)).alloc (.cells #[.int .i64 kk, .slice esA esn esc, .slice ekA ekn ekc, .int .i64 enum, .int .i64 eleast, .int .i64 emost, .int .i64 eway, .bool efold] 25) = W2 at *
  clear hW v0 v1 v2 v3 v4 v5 v6 v7 v8 c0 c1 c2 c3 c4 c5 c6 c7
  obtain ⟨y0, y1, y2, y3, y4, y5, y6, y7, y8⟩ := HX1.out
  have C35 := Lib.hid (fun must (hm : (wrapT must (showT nm k0)).length ≤ (repT (kk, showT nm k0) dleast dmost dway).length) => wrapped35 b g nm k0 H bs ⟨kk, esA, esn, esc, ekA, ekn, ekc, enum, eleast, emost, eway, efold⟩ must W2 HI2.out HN2.out HS2.out (by have := HLEN.out; omega))
  unfold ND.agg at C35
  simp only at C35
  have HREP := Lib.hid (show (wrapT (repMust kk) (showT nm k0)).length ≤ (repT (kk, showT nm k0) dleast dmost dway).length by unfold repT; simp only [List.length_append]; omega)
  go_cut [24] from 9 to 24 (fun z wc => z = .tuple #[] ∧ Hid (IsWr b g (bs ++ Lib.byteCells (wrapT (repMust kk) (showT nm k0))) wc) ∧ Hid (Wrote b W2 wc))
  case first =>
    by_cases k9 : kk = 9
    · subst k9
      have C := Lib.hid (C35.out true HREP.out)
      go_wp2_with (go_at_call 35; refine C.out.mono ?_; rintro e w' ⟨rfl, h1, h2⟩; have H1 := Lib.hid h1; have H2 := Lib.hid h2; clear h1 h2)
      go_meet
      exact ⟨rfl, H1, H2⟩
    by_cases k10 : kk = 10
    · subst k10
      have C := Lib.hid (C35.out true HREP.out)
      go_wp2_with (go_at_call 35; refine C.out.mono ?_; rintro e w' ⟨rfl, h1, h2⟩; have H1 := Lib.hid h1; have H2 := Lib.hid h2; clear h1 h2)
      go_meet
      exact ⟨rfl, H1, H2⟩
    by_cases k12 : kk = 12
    · subst k12
      have C := Lib.hid (C35.out true HREP.out)
      go_wp2_with (go_at_call 35; refine C.out.mono ?_; rintro e w' ⟨rfl, h1, h2⟩; have H1 := Lib.hid h1; have H2 := Lib.hid h2; clear h1 h2)
      go_meet
      exact ⟨rfl, H1, H2⟩
    have HFL := Lib.hid (show repMust kk = false by unfold repMust; simp [k9, k10, k12])
    rw [HFL.out] at HREP
    have C := Lib.hid (C35.out false HREP.out)
    have d9 : (kk == 9) = false := by simpa using k9
    have d10 : (kk == 10) = false := by simpa using k10
    have d12 : (kk == 12) = false := by simpa using k12
    go_wp2_with (go_at_call 35; refine C.out.mono ?_; rintro e w' ⟨rfl, h1, h2⟩; have H1 := Lib.hid h1; have H2 := Lib.hid h2; clear h1 h2)
    go_meet
    exact ⟨rfl, Lib.hid (by rw [HFL.out]; exact H1.out), H2⟩
  case rest =>
    obtain ⟨rfl, HI3, HW3⟩ := hcut
    have HX3 := Lib.hid (HX2.out.kept HW3.out HH2.out hbne)
    have HS3 := Lib.hid (HS2.out.wrote HW3.out)
    have hw2l : w.heap.size < W2.heap.size := by rw [hw2s]; omega
    have HLR := Lib.hid (show (repT (kk, showT nm k0) dleast dmost dway).length = (wrapT (repMust kk) (showT nm k0)).length + (decT dleast).length + (if 0 ≤ dmost then decT dmost else []).length + (wayT dway).length + 3 by unfold repT; simp only [List.length_append, List.length_cons, List.length_nil]; omega)
    have HH3 := Lib.hid (show ∃ cs fr, wc.heap[w.heap.size]? = some (.cells cs 25 fr) by
      obtain ⟨cs, fr, e⟩ := HH2.out
      exact ⟨cs, fr, by rw [HW3.out.keep _ hw2l hbne (fun cs' fr' e' => by rw [e] at e'; injection e' with e'; injection e' with _ e' _; exact absurd e' (by decide))]; exact e⟩)
    clear hw2s y0 y1 y2 y3 y4 y5 y6 y7 y8
    obtain ⟨y0, y1, y2, y3, y4, y5, y6, y7, y8⟩ := HX3.out
    obtain ⟨bs2, hbs2⟩ : ∃ x, x = bs ++ Lib.byteCells (wrapT (repMust kk) (showT nm k0)) := ⟨_, rfl⟩
    rw [← hbs2] at HI3
    have HL2 := Lib.hid (show bs2.length = bs.length + (wrapT (repMust kk) (showT nm k0)).length by rw [hbs2, List.length_append, byteCells_len])
    have HBS2 := Lib.hid hbs2
    clear hbs2
    have C37 := Lib.hid (itoa37 dleast wc hl.1 hl.2 HS3.out.tabs)
    have HC33 := Lib.hid (show catC [⟨#[123]⟩, ⟨(decT dleast).toArray⟩, ⟨#[44]⟩] = Lib.byteCells ([123] ++ decT dleast ++ [44]) from (catC_mk [[123], decT dleast, [44]]).trans (congrArg _ (by simp)))
    have C33 := Lib.hid (fun (w4 : World) (hb : Below wc.heap.size wc w4) => putN b g bs2 [⟨#[123]⟩, ⟨(decT dleast).toArray⟩, ⟨#[44]⟩] w4 (HI3.out.next hb) (by rw [HC33.out, byteCells_len]; simp only [List.length_append, List.length_cons, List.length_nil]; have h1 := HLR.out; have h2 := HLEN.out; have h3 := HL2.out; omega) (by simp))
    rw [HC33.out] at C33
    simp only [List.map_cons, List.map_nil, List.length_cons, List.length_nil, Nat.zero_add, Nat.reduceAdd] at C33
    have hltc : b < wc.heap.size := HI3.out.lt
    go_upto_region 4 with (first
      | (go_at_call 37; refine C37.out.mono ?_; rintro e w4 ⟨rfl, hb⟩; have HB4 := Lib.hid hb; clear hb)
      | (go_at_call 33; refine (C33.out _ HB4.out).mono ?_; rintro e w5 ⟨rfl, h1, h2⟩; have HI5 := Lib.hid h1; have HW5 := Lib.hid ((Wrote.of HB4.out (Nat.le_of_lt hltc)).trans h2); clear h1 h2))
    have HX5 := Lib.hid (HX3.out.kept HW5.out HH3.out hbne)
    have HS5 := Lib.hid (HS3.out.wrote HW5.out)
    have hwcl : w.heap.size < wc.heap.size := Nat.lt_of_lt_of_le hw2l HW3.out.below.size
    have HH5 := Lib.hid (show ∃ cs fr, w5.heap[w.heap.size]? = some (.cells cs 25 fr) by
      obtain ⟨cs, fr, e⟩ := HH3.out
      exact ⟨cs, fr, by rw [HW5.out.keep _ hwcl hbne (fun cs' fr' e' => by rw [e] at e'; injection e' with e'; injection e' with _ e' _; exact absurd e' (by decide))]; exact e⟩)
    have hlt5 : b < w5.heap.size := HI5.out.lt
    obtain ⟨bs5, hbs5⟩ : ∃ x, x = bs2 ++ Lib.byteCells ([123] ++ decT dleast ++ [44]) := ⟨_, rfl⟩
    rw [← hbs5] at HI5
    have HL5 := Lib.hid (show bs5.length = bs2.length + (decT dleast).length + 2 by rw [hbs5, List.length_append, byteCells_len]; simp only [List.length_append, List.length_cons, List.length_nil]; omega)
    have HBS5 := Lib.hid hbs5
    clear hbs5 y0 y1 y2 y3 y4 y5 y6 y7 y8 C37 C33 HC33
    obtain ⟨y0, y1, y2, y3, y4, y5, y6, y7, y8⟩ := HX5.out
    obtain ⟨mo, hmo⟩ : ∃ x, x = if 0 ≤ dmost then decT dmost else [] := ⟨_, rfl⟩
    have HMO := Lib.hid hmo
    rw [← hmo] at HLR
    clear hmo
    go_upto_if 33 with (fail)
    go_cut [] from 33 to 39 (fun wd => Hid (IsWr b g (bs5 ++ Lib.byteCells mo) wd) ∧ Hid (Wrote b w5 wd))
    case first =>
      by_cases h0 : 0 ≤ dmost
      · have C37 := Lib.hid (itoa37 dmost w5 h0 hm.2 HS5.out.tabs)
        have HM2 := Lib.hid (show mo = decT dmost by rw [HMO.out, if_pos h0])
        have HC33 := Lib.hid (show catC [⟨(decT dmost).toArray⟩] = Lib.byteCells mo by rw [HM2.out]; exact (catC_mk [decT dmost]).trans (congrArg _ (by simp)))
        have C33 := Lib.hid (fun (w4 : World) (hb : Below w5.heap.size w5 w4) => putN b g bs5 [⟨(decT dmost).toArray⟩] w4 (HI5.out.next hb) (by rw [HC33.out, byteCells_len]; have h1 := HLR.out; have h2 := HLEN.out; have h3 := HL2.out; have h4 := HL5.out; omega) (by simp))
        rw [HC33.out] at C33
        simp only [List.map_cons, List.map_nil, List.length_cons, List.length_nil, Nat.zero_add] at C33
        go_wp2_with (first
          | (go_at_call 37; refine C37.out.mono ?_; rintro e w6 ⟨rfl, hb⟩; have HB6 := Lib.hid hb; clear hb)
          | (go_at_call 33; refine (C33.out _ HB6.out).mono ?_; rintro e w7 ⟨rfl, h1, h2⟩; have HI7 := Lib.hid h1; have HW7 := Lib.hid ((Wrote.of HB6.out (Nat.le_of_lt hlt5)).trans h2); clear h1 h2))
        go_meet
        exact ⟨HI7, HW7⟩
      · have HM2 := Lib.hid (show mo = [] by rw [HMO.out, if_neg h0])
        have h0' : dmost < 0 := by omega
        go_wp2_with fail
        go_meet
        exact ⟨Lib.hid (by rw [HM2.out, show Lib.byteCells [] = [] from rfl, List.append_nil]; exact HI5.out), Lib.hid (Wrote.refl _ _)⟩
    case rest =>
      obtain ⟨HI8, HW8⟩ := hcut
      have HX8 := Lib.hid (HX5.out.kept HW8.out HH5.out hbne)
      clear y0 y1 y2 y3 y4 y5 y6 y7 y8
      obtain ⟨y0, y1, y2, y3, y4, y5, y6, y7, y8⟩ := HX8.out
      have hlt8 : b < wc.heap.size := HI8.out.lt
      have HB9 := Lib.hid ((Below.refl wc.heap.size wc).alloc (Nat.le_refl _) (.cells #[.string ⟨#[]⟩, .string ⟨#[63]⟩, .string ⟨#[43]⟩] 9))
      have hs9 : (wc.alloc (.cells #[.string ⟨#[]⟩, .string ⟨#[63]⟩, .string ⟨#[43]⟩] 9)).heap.size = wc.heap.size + 1 := by simp
      have HEND := Lib.hid (show bs5 ++ Lib.byteCells mo ++ Lib.byteCells ([125] ++ wayT dway) = bs ++ Lib.byteCells (repT (kk, showT nm k0) dleast dmost dway) by
        rw [HBS5.out, HBS2.out, HMO.out]; unfold repT; simp only [byteCells_app, List.append_assoc])
      have hw3 := wayT_len dway
      have C33 := Lib.hid (fun (s : List UInt8) (hs : s = wayT dway) => by
        have C := putN b g (bs5 ++ Lib.byteCells mo) [⟨#[125]⟩, ⟨s.toArray⟩] _ (HI8.out.next HB9.out) (by
          rw [show catC [⟨#[125]⟩, ⟨s.toArray⟩] = Lib.byteCells ([125] ++ s) from (catC_mk [[125], s]).trans (congrArg _ (by simp)), byteCells_len, List.length_append, List.length_append, byteCells_len, hs]
          simp only [List.length_cons, List.length_nil]
          have h1 := HLR.out; have h2 := HLEN.out; have h3 := HL2.out; have h4 := HL5.out; omega) (by simp)
        rw [show catC [⟨#[125]⟩, ⟨s.toArray⟩] = Lib.byteCells ([125] ++ wayT dway) by rw [← hs]; exact (catC_mk [[125], s]).trans (congrArg _ (by simp)), HEND.out] at C
        simp only [List.map_cons, List.map_nil, List.length_cons, List.length_nil, Nat.zero_add, Nat.reduceAdd] at C
        rw [hs9] at C
        exact C)
      have HWF := Lib.hid (fun wz (h : Wrote b (wc.alloc (.cells #[.string ⟨#[]⟩, .string ⟨#[63]⟩, .string ⟨#[43]⟩] 9)) wz) => HW2.out.trans (HW3.out.trans (HW5.out.trans (HW8.out.trans ((Wrote.of HB9.out (Nat.le_of_lt hlt8)).trans h)))))
      clear hw3
      have hway : dway = 1 ∨ dway = 2 ∨ dway = 3 := by omega
      rcases hway with rfl | rfl | rfl
      · have C := Lib.hid (C33.out [] rfl)
        go_wp2_with (go_at_call 33; refine C.out.mono ?_; rintro e wz ⟨rfl, h1, h2⟩; have H1 := Lib.hid h1; have H2 := Lib.hid h2; clear h1 h2)
        go_end0
        exact ⟨rfl, H1.out, HWF.out _ H2.out⟩
      · have C := Lib.hid (C33.out [63] rfl)
        go_wp2_with (go_at_call 33; refine C.out.mono ?_; rintro e wz ⟨rfl, h1, h2⟩; have H1 := Lib.hid h1; have H2 := Lib.hid h2; clear h1 h2)
        go_end0
        exact ⟨rfl, H1.out, HWF.out _ H2.out⟩
      · have C := Lib.hid (C33.out [43] rfl)
        go_wp2_with (go_at_call 33; refine C.out.mono ?_; rintro e wz ⟨rfl, h1, h2⟩; have H1 := Lib.hid h1; have H2 := Lib.hid h2; clear h1 h2)
        go_end0
        exact ⟨rfl, H1.out, HWF.out _ H2.out⟩
end Go.Proofs.YtbekjfoefjnidaaDoor
namespace Go.Proofs.YtbekjfoefjnidaaDoor
open Go.RowKit
set_option linter.unusedVariables false
set_option maxRecDepth 100000 in
set_option maxHeartbeats 8000000 in
theorem node_empty (b g : Nat) (nm : Int → List UInt8) (t : Tr) (hk : t.kind = 1) : Law21 b g nm t := by
  intro bs d w h hn hs hlen
  have hlt := h.lt
  have HB0 := Lib.hid (ND.box_below w d)
  have HX0 := Lib.hid (BoxN.new w d)
  have hbs := ND.box_size w d
  have HI := Lib.hid (h.next HB0.out)
  have HS := Lib.hid (hs.below HB0.out (Nat.le_of_lt hlt))
  have HNX := Lib.hid (hn.under (HB0.out.mono (Nat.le_of_lt hlt)))
  have HW0 := Lib.hid (Wrote.of (b := b) HB0.out (Nat.le_of_lt hlt))
  have HH0 := Lib.hid (box_heap w d)
  have hbne : w.heap.size ≠ b := by omega
  obtain ⟨ds, hd⟩ := hn.of
  have HD := Lib.hid hd
  obtain ⟨W, hW⟩ : ∃ W, W = d.box w := ⟨_, rfl⟩
  have hkind := hd.kind
  have HT := Lib.hid (show showT nm t = [40, 63, 58, 41] by rw [showT_eq]; unfold showK; rw [if_pos hk])
  rw [HT.out] at hlen ⊢
  have C33 := Lib.hid (putN b g bs [⟨#[40, 63, 58, 41]⟩] (d.box w) HI.out (by show bs.length + 4 ≤ _; simp only [List.length_cons, List.length_nil] at hlen; omega) (by simp))
  simp only [List.map_cons, List.map_nil, List.length_cons, List.length_nil, Nat.zero_add] at C33
  rw [show catC [⟨#[40, 63, 58, 41]⟩] = Lib.byteCells [40, 63, 58, 41] from rfl] at C33
  rw [hk] at hkind
  clear h hn hs hd hlen hk
  obtain ⟨dk, dsA, dsn, dsc, dkA, dkn, dkc, dnum, dleast, dmost, dway, dfold⟩ := d
  unfold ND.agg
  unfold ND.box at hW hbs HX0 HI HS HNX HW0 HH0 C33
  simp only at hbs HX0 HI HS HNX HW0 HH0 HD hkind C33 ⊢
  obtain ⟨v0, v1, v2, v3, v4, v5, v6, v7, v8⟩ := HX0.out
  rw [← hW] at v0 v1 v2 v3 v4 v5 v6 v7 v8 hbs HI HS HNX HW0 HH0 C33
  have HBS := Lib.hid hbs
  clear hbs
  subst hkind
  go_enter Tryd.func21, Tryd.ntmps21
  go_upto_region 4 with (fail)
  rw [← hW]
  clear hW
  go_wp2_with (go_at_call 33; refine C33.out.mono ?_; rintro e wz ⟨rfl, h1, h2⟩; have H1 := Lib.hid h1; have H2 := Lib.hid h2; clear h1 h2)
  go_end0
  exact ⟨rfl, H1.out, HW0.out.trans H2.out⟩
set_option maxRecDepth 100000 in
set_option maxHeartbeats 8000000 in
theorem node_set34 (b g : Nat) (nm : Int → List UInt8) (t : Tr) (hk : t.kind = 2) (hc : chk t.set = 0) : Law21 b g nm t := by
  intro bs d w h hn hs hlen
  have hlt := h.lt
  have HB0 := Lib.hid (ND.box_below w d)
  have HX0 := Lib.hid (BoxN.new w d)
  have hbs := ND.box_size w d
  have HI := Lib.hid (h.next HB0.out)
  have HS := Lib.hid (hs.below HB0.out (Nat.le_of_lt hlt))
  have HNX := Lib.hid (hn.under (HB0.out.mono (Nat.le_of_lt hlt)))
  have HW0 := Lib.hid (Wrote.of (b := b) HB0.out (Nat.le_of_lt hlt))
  have HH0 := Lib.hid (box_heap w d)
  have hbne : w.heap.size ≠ b := by omega
  obtain ⟨ds, hd⟩ := hn.of
  have HD := Lib.hid hd
  obtain ⟨W, hW⟩ : ∃ W, W = d.box w := ⟨_, rfl⟩
  have hkind := hd.kind
  have HT := Lib.hid (show showT nm t = setT t.set by rw [showT_eq]; unfold showK; rw [if_neg (by omega), if_pos hk])
  rw [HT.out] at hlen ⊢
  have C34 := Lib.hid (set34 b g bs t.set d.sA d.sn d.sc (d.box w) HI.out HS.out.tabs HS.out.two (hd.set.below HB0.out (Nat.le_of_lt hlt)) hc (by omega))
  rw [hk] at hkind
  clear h hn hs hd hlen hk
  obtain ⟨dk, dsA, dsn, dsc, dkA, dkn, dkc, dnum, dleast, dmost, dway, dfold⟩ := d
  unfold ND.agg
  unfold ND.box at hW hbs HX0 HI HS HNX HW0 HH0 C34
  simp only at hbs HX0 HI HS HNX HW0 HH0 HD hkind C34 ⊢
  obtain ⟨v0, v1, v2, v3, v4, v5, v6, v7, v8⟩ := HX0.out
  rw [← hW] at v0 v1 v2 v3 v4 v5 v6 v7 v8 hbs HI HS HNX HW0 HH0 C34
  have HBS := Lib.hid hbs
  clear hbs
  subst hkind
  go_enter Tryd.func21, Tryd.ntmps21
  go_upto_region 6 with (fail)
  rw [← hW]
  clear hW
  go_wp2_with (go_at_call 34; refine C34.out.mono ?_; rintro e wz ⟨rfl, h1, h2⟩; have H1 := Lib.hid h1; have H2 := Lib.hid h2; clear h1 h2)
  go_end0
  exact ⟨rfl, H1.out, HW0.out.trans H2.out⟩
set_option maxRecDepth 100000 in
set_option maxHeartbeats 8000000 in
theorem node_repeat (b g : Nat) (nm : Int → List UInt8) (t : Tr) (ih : ∀ k ∈ t.kids, Law21 b g nm k) (hk : t.kind = 12) (h1k : t.kids.length = 1) (hl : 0 ≤ t.least ∧ t.least ≤ 100) (hm : -1 ≤ t.most ∧ t.most ≤ 100) (hw : 1 ≤ t.way ∧ t.way ≤ 3) : Law21 b g nm t := by
  intro bs d w h hn hs hlen
  have hlt := h.lt
  have HB0 := Lib.hid (ND.box_below w d)
  have HX0 := Lib.hid (BoxN.new w d)
  have hbs := ND.box_size w d
  have HI := Lib.hid (h.next HB0.out)
  have HS := Lib.hid (hs.below HB0.out (Nat.le_of_lt hlt))
  have HNX := Lib.hid (hn.under (HB0.out.mono (Nat.le_of_lt hlt)))
  have HW0 := Lib.hid (Wrote.of (b := b) HB0.out (Nat.le_of_lt hlt))
  have HH0 := Lib.hid (box_heap w d)
  have hbne : w.heap.size ≠ b := by omega
  obtain ⟨ds, hd⟩ := hn.of
  have HD := Lib.hid hd
  obtain ⟨W, hW⟩ : ∃ W, W = d.box w := ⟨_, rfl⟩
  have hkind := hd.kind
  obtain ⟨k0, d0, hkids, hn0, hkn, hrd⟩ := node_kid0 HNX.out h1k
  have HT := Lib.hid (show showT nm t = repT (k0.kind, showT nm k0) d.least d.most d.way by rw [showT_eq]; unfold showK; rw [if_neg (by omega), if_neg (by omega), if_neg (by omega), if_neg (by omega), if_pos hk, hkids, hd.least, hd.most, hd.way]; rfl)
  rw [HT.out] at hlen ⊢
  rw [← hd.least] at hl
  rw [← hd.most] at hm
  rw [← hd.way] at hw
  have C36 := Lib.hid (repeat36 b g nm k0 k0 (ih k0 (by rw [hkids]; simp)) bs d d0 (d.box w) HI.out HS.out hkn hrd hn0 hl hm hw hlen)
  rw [hk] at hkind
  clear h hn hs hd hlen hk hn0 hrd hkids ih
  obtain ⟨dk, dsA, dsn, dsc, dkA, dkn, dkc, dnum, dleast, dmost, dway, dfold⟩ := d
  unfold ND.agg at C36 ⊢
  unfold ND.box at hW hbs HX0 HI HS HNX HW0 HH0 C36
  simp only at hbs HX0 HI HS HNX HW0 HH0 HD hkind C36 ⊢
  obtain ⟨v0, v1, v2, v3, v4, v5, v6, v7, v8⟩ := HX0.out
  rw [← hW] at v0 v1 v2 v3 v4 v5 v6 v7 v8 hbs HI HS HNX HW0 HH0 C36
  have HBS := Lib.hid hbs
  clear hbs
  subst hkind
  go_enter Tryd.func21, Tryd.ntmps21
  go_upto_region 22 with (fail)
  rw [← hW]
  clear hW
  go_wp2_with (go_at_call 36; refine C36.out.mono ?_; rintro e wz ⟨rfl, h1, h2⟩; have H1 := Lib.hid h1; have H2 := Lib.hid h2; clear h1 h2)
  go_end0
  exact ⟨rfl, H1.out, HW0.out.trans H2.out⟩
theorem again_ba (n : Int) : (⟨#[92, 107, 60]⟩ : ByteArray) ++ ⟨(decT n).toArray⟩ ++ ⟨#[62]⟩ = ⟨(againT n false).toArray⟩ := by
  apply ByteArray.ext
  simp [againT]
theorem againF_ba (n : Int) : (⟨#[40, 63, 105, 58]⟩ : ByteArray) ++ ⟨(againT n false).toArray⟩ ++ ⟨#[41]⟩ = ⟨(againT n true).toArray⟩ := by
  apply ByteArray.ext
  simp [againT]
set_option maxRecDepth 100000 in
set_option maxHeartbeats 8000000 in
theorem node_again_false (b g : Nat) (nm : Int → List UInt8) (t : Tr) (hk : t.kind = 18) (hnum : 1 ≤ t.num ∧ t.num ≤ 20) (hf : t.fold = false) : Law21 b g nm t := by
  intro bs d w h hn hs hlen
  have hlt := h.lt
  have HB0 := Lib.hid (ND.box_below w d)
  have HX0 := Lib.hid (BoxN.new w d)
  have hbs := ND.box_size w d
  have HI := Lib.hid (h.next HB0.out)
  have HS := Lib.hid (hs.below HB0.out (Nat.le_of_lt hlt))
  have HNX := Lib.hid (hn.under (HB0.out.mono (Nat.le_of_lt hlt)))
  have HW0 := Lib.hid (Wrote.of (b := b) HB0.out (Nat.le_of_lt hlt))
  have HH0 := Lib.hid (box_heap w d)
  have hbne : w.heap.size ≠ b := by omega
  obtain ⟨ds, hd⟩ := hn.of
  have HD := Lib.hid hd
  obtain ⟨W, hW⟩ : ∃ W, W = d.box w := ⟨_, rfl⟩
  have hkind := hd.kind
  have HT := Lib.hid (show showT nm t = againT d.num false by rw [showT_eq]; unfold showK; rw [if_neg (by omega), if_neg (by omega), if_neg (by omega), if_neg (by omega), if_neg (by omega), if_pos hk, hd.num, hf])
  rw [HT.out] at hlen ⊢
  have hfold := hd.fold
  rw [hf] at hfold
  rw [← hd.num] at hnum
  have hal := againT_len (n := d.num) (b := false) (by omega)
  have hdl := decT_len (n := d.num) (by omega)
  have hal0 : (againT d.num false).length = (decT d.num).length + 4 := by simp [againT]
  have C37 := Lib.hid (itoa37 d.num (d.box w) (by omega) (by omega) HS.out.tabs)
  have C33 := Lib.hid (fun (w4 : World) (hb : Below (d.box w).heap.size (d.box w) w4) => putN b g bs [⟨(againT d.num false).toArray⟩] w4 (HI.out.next hb) (by rw [show catC [⟨(againT d.num false).toArray⟩] = Lib.byteCells (againT d.num false) from (catC_mk [againT d.num false]).trans (congrArg _ (by simp)), byteCells_len]; omega) (by simp))
  rw [show catC [⟨(againT d.num false).toArray⟩] = Lib.byteCells (againT d.num false) from (catC_mk [againT d.num false]).trans (congrArg _ (by simp))] at C33
  simp only [List.map_cons, List.map_nil, List.length_cons, List.length_nil, Nat.zero_add] at C33
  have HXN := Lib.hid (fun (w4 : World) (hb : Below (d.box w).heap.size (d.box w) w4) => HX0.out.next hb)
  have hWl : b ≤ (d.box w).heap.size := by rw [hbs]; omega
  have eA := again_ba d.num
  have eF := againF_ba d.num
  rw [hk] at hkind
  clear h hn hs hd hlen hk hf
  obtain ⟨dk, dsA, dsn, dsc, dkA, dkn, dkc, dnum, dleast, dmost, dway, dfold⟩ := d
  unfold ND.agg
  unfold ND.box at hW hbs HX0 HI HS HNX HW0 HH0 C33 C37 HXN hWl
  simp only at hbs HX0 HI HS HNX HW0 HH0 HD hkind C33 C37 HXN hnum hfold eA eF hdl hal0 hal hWl ⊢
  obtain ⟨v0, v1, v2, v3, v4, v5, v6, v7, v8⟩ := HX0.out
  rw [← hW] at v0 v1 v2 v3 v4 v5 v6 v7 v8 hbs HI HS HNX HW0 HH0 C33 C37 HXN hWl
  have HBS := Lib.hid hbs
  clear hbs
  subst hkind
  subst hfold
  obtain ⟨x, hx⟩ : ∃ x, x = decT dnum := ⟨_, rfl⟩
  rw [← hx] at hdl hal0 C37 eA
  clear hx
  obtain ⟨y, hy⟩ : ∃ y, y = againT dnum false := ⟨_, rfl⟩
  rw [← hy] at hal0 eA eF C33 ⊢
  clear hy
  obtain ⟨z, hz⟩ : ∃ z, z = againT dnum true := ⟨_, rfl⟩
  rw [← hz] at eF
  clear hz
  have g1 : ¬ 9223372036854775807 < 3 + x.length := by omega
  have g2 : ¬ 9223372036854775807 < 3 + x.length + 1 := by omega
  have g3 : ¬ 9223372036854775807 < 4 + y.length := by omega
  have g4 : ¬ 9223372036854775807 < 4 + y.length + 1 := by omega
  clear hal hal0 hdl
  go_enter Tryd.func21, Tryd.ntmps21
  go_upto_region 24 with (fail)
  rw [← hW]
  clear hW
  go_wp2_with (first
    | (go_at_call 37; refine C37.out.mono ?_; rintro e w4 ⟨rfl, hb⟩; have HB4 := Lib.hid hb; have hx4 := HXN.out w4 hb; clear v0 v1 v2 v3 v4 v5 v6 v7 v8; obtain ⟨v0, v1, v2, v3, v4, v5, v6, v7, v8⟩ := hx4; clear hb)
    | (go_at_call 33; refine (C33.out _ HB4.out).mono ?_; rintro e wz ⟨rfl, h1, h2⟩; have H1 := Lib.hid h1; have H2 := Lib.hid h2; clear h1 h2))
  go_end0
  exact ⟨rfl, H1.out, HW0.out.trans ((Wrote.of HB4.out hWl).trans H2.out)⟩
set_option maxRecDepth 100000 in
set_option maxHeartbeats 8000000 in
theorem node_again_true (b g : Nat) (nm : Int → List UInt8) (t : Tr) (hk : t.kind = 18) (hnum : 1 ≤ t.num ∧ t.num ≤ 20) (hf : t.fold = true) : Law21 b g nm t := by
  intro bs d w h hn hs hlen
  have hlt := h.lt
  have HB0 := Lib.hid (ND.box_below w d)
  have HX0 := Lib.hid (BoxN.new w d)
  have hbs := ND.box_size w d
  have HI := Lib.hid (h.next HB0.out)
  have HS := Lib.hid (hs.below HB0.out (Nat.le_of_lt hlt))
  have HNX := Lib.hid (hn.under (HB0.out.mono (Nat.le_of_lt hlt)))
  have HW0 := Lib.hid (Wrote.of (b := b) HB0.out (Nat.le_of_lt hlt))
  have HH0 := Lib.hid (box_heap w d)
  have hbne : w.heap.size ≠ b := by omega
  obtain ⟨ds, hd⟩ := hn.of
  have HD := Lib.hid hd
  obtain ⟨W, hW⟩ : ∃ W, W = d.box w := ⟨_, rfl⟩
  have hkind := hd.kind
  have HT := Lib.hid (show showT nm t = againT d.num true by rw [showT_eq]; unfold showK; rw [if_neg (by omega), if_neg (by omega), if_neg (by omega), if_neg (by omega), if_neg (by omega), if_pos hk, hd.num, hf])
  rw [HT.out] at hlen ⊢
  have hfold := hd.fold
  rw [hf] at hfold
  rw [← hd.num] at hnum
  have hal := againT_len (n := d.num) (b := true) (by omega)
  have hdl := decT_len (n := d.num) (by omega)
  have hal0 : (againT d.num false).length = (decT d.num).length + 4 := by simp [againT]
  have C37 := Lib.hid (itoa37 d.num (d.box w) (by omega) (by omega) HS.out.tabs)
  have C33 := Lib.hid (fun (w4 : World) (hb : Below (d.box w).heap.size (d.box w) w4) => putN b g bs [⟨(againT d.num true).toArray⟩] w4 (HI.out.next hb) (by rw [show catC [⟨(againT d.num true).toArray⟩] = Lib.byteCells (againT d.num true) from (catC_mk [againT d.num true]).trans (congrArg _ (by simp)), byteCells_len]; omega) (by simp))
  rw [show catC [⟨(againT d.num true).toArray⟩] = Lib.byteCells (againT d.num true) from (catC_mk [againT d.num true]).trans (congrArg _ (by simp))] at C33
  simp only [List.map_cons, List.map_nil, List.length_cons, List.length_nil, Nat.zero_add] at C33
  have HXN := Lib.hid (fun (w4 : World) (hb : Below (d.box w).heap.size (d.box w) w4) => HX0.out.next hb)
  have hWl : b ≤ (d.box w).heap.size := by rw [hbs]; omega
  have eA := again_ba d.num
  have eF := againF_ba d.num
  rw [hk] at hkind
  clear h hn hs hd hlen hk hf
  obtain ⟨dk, dsA, dsn, dsc, dkA, dkn, dkc, dnum, dleast, dmost, dway, dfold⟩ := d
  unfold ND.agg
  unfold ND.box at hW hbs HX0 HI HS HNX HW0 HH0 C33 C37 HXN hWl
  simp only at hbs HX0 HI HS HNX HW0 HH0 HD hkind C33 C37 HXN hnum hfold eA eF hdl hal0 hal hWl ⊢
  obtain ⟨v0, v1, v2, v3, v4, v5, v6, v7, v8⟩ := HX0.out
  rw [← hW] at v0 v1 v2 v3 v4 v5 v6 v7 v8 hbs HI HS HNX HW0 HH0 C33 C37 HXN hWl
  have HBS := Lib.hid hbs
  clear hbs
  subst hkind
  subst hfold
  obtain ⟨x, hx⟩ : ∃ x, x = decT dnum := ⟨_, rfl⟩
  rw [← hx] at hdl hal0 C37 eA
  clear hx
  obtain ⟨y, hy⟩ : ∃ y, y = againT dnum false := ⟨_, rfl⟩
  rw [← hy] at hal0 eA eF
  clear hy
  obtain ⟨z, hz⟩ : ∃ z, z = againT dnum true := ⟨_, rfl⟩
  rw [← hz] at eF C33 ⊢
  clear hz
  have g1 : ¬ 9223372036854775807 < 3 + x.length := by omega
  have g2 : ¬ 9223372036854775807 < 3 + x.length + 1 := by omega
  have g3 : ¬ 9223372036854775807 < 4 + y.length := by omega
  have g4 : ¬ 9223372036854775807 < 4 + y.length + 1 := by omega
  clear hal hal0 hdl
  go_enter Tryd.func21, Tryd.ntmps21
  go_upto_region 24 with (fail)
  rw [← hW]
  clear hW
  go_wp2_with (first
    | (go_at_call 37; refine C37.out.mono ?_; rintro e w4 ⟨rfl, hb⟩; have HB4 := Lib.hid hb; have hx4 := HXN.out w4 hb; clear v0 v1 v2 v3 v4 v5 v6 v7 v8; obtain ⟨v0, v1, v2, v3, v4, v5, v6, v7, v8⟩ := hx4; clear hb)
    | (go_at_call 33; refine (C33.out _ HB4.out).mono ?_; rintro e wz ⟨rfl, h1, h2⟩; have H1 := Lib.hid h1; have H2 := Lib.hid h2; clear h1 h2))
  go_end0
  exact ⟨rfl, H1.out, HW0.out.trans ((Wrote.of HB4.out hWl).trans H2.out)⟩
end Go.Proofs.YtbekjfoefjnidaaDoor
