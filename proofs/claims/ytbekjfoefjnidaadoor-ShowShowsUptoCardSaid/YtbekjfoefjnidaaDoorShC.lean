/- What a leaf writes: walked. -/
import Derived.Test.YtbekjfoefjnidaaDoorShB
import Derived.Test.YtbekjfoefjnidaaDoorShP
namespace Go.Proofs.YtbekjfoefjnidaaDoor
open Go.RowKit Go.Maps
set_option linter.unusedVariables false
def D6 : DataW Unit := ((((((DataW.map []).put (.int .i64 3) (.lit (.string [94]))).put (.int .i64 4) (.lit (.string [36]))).put (.int .i64 5) (.lit (.string [92, 65]))).put (.int .i64 6) (.lit (.string [92, 122]))).put (.int .i64 7) (.lit (.string [92, 98]))).put (.int .i64 8) (.lit (.string [92, 66]))
theorem strCells_mk (l : List UInt8) : Lib.strCells ⟨l.toArray⟩ = Lib.byteCells l := rfl
set_option maxRecDepth 100000 in
set_option maxHeartbeats 4000000 in
theorem leaf21 (b g : Nat) (bs : List Value) (d : ND) (w : World) (h : IsWr b g bs w) (hk : d.kind = 3 ∨ d.kind = 4 ∨ d.kind = 5 ∨ d.kind = 6 ∨ d.kind = 7 ∨ d.kind = 8) (hlen : bs.length ≤ 140000000000000) :
    Calls Tryd.prog 21 #[.pointer (some ⟨b, 0, none⟩), d.agg] w fun e w' => e = .returned (.tuple #[]) ∧ IsWr b g (bs ++ Lib.byteCells (leafT d.kind)) w' ∧ Wrote b w w' := by
  have hmm := @run_makeMap Tryd.prog
  have hlt := h.lt
  have HB0 := Lib.hid (ND.box_below w d)
  have HX0 := Lib.hid (BoxN.new w d)
  have hbs := ND.box_size w d
  obtain ⟨W, hW⟩ : ∃ W, W = d.box w := ⟨_, rfl⟩
  have hWs : W.heap.size = w.heap.size + 1 := by rw [hW]; exact hbs
  have HM0 := Lib.hid (World.ownsMap_made (H := Unit) W Tryd.prog 3 ps)
  obtain ⟨w1, r1, o1, g1⟩ := insS HM0.out (by unfold maxLen; omega) 3 (by decide) ⟨#[94]⟩ (by unfold maxLen; decide)
  obtain ⟨w2, r2, o2, g2⟩ := insS o1 (by unfold maxLen; omega) 4 (by decide) ⟨#[36]⟩ (by unfold maxLen; decide)
  obtain ⟨w3, r3, o3, g3⟩ := insS o2 (by unfold maxLen; omega) 5 (by decide) ⟨#[92, 65]⟩ (by unfold maxLen; decide)
  obtain ⟨w4, r4, o4, g4⟩ := insS o3 (by unfold maxLen; omega) 6 (by decide) ⟨#[92, 122]⟩ (by unfold maxLen; decide)
  obtain ⟨w5, r5, o5, g5⟩ := insS o4 (by unfold maxLen; omega) 7 (by decide) ⟨#[92, 98]⟩ (by unfold maxLen; decide)
  obtain ⟨w6, r6, o6, g6⟩ := insS o5 (by unfold maxLen; omega) 8 (by decide) ⟨#[92, 66]⟩ (by unfold maxLen; decide)
  have HL := Lib.hid (fun (k : Int) (hk : (Lit.int .i64 k).wf = true) (l : List UInt8) (hD : D6.atKey (.int .i64 k) (.lit (.string [])) = .lit (.string l)) => lookS o6 k hk hD)
  have s0 : (W.alloc (.map #[] 0)).heap.size = W.heap.size + 1 := by simp
  have B1 : Below W.heap.size W w1 := Below.grown ((Below.refl _ _).alloc (Nat.le_refl _) _) g1 (by omega) (fun k hk => by cases hk; exact Nat.le_refl _)
  have B2 : Below W.heap.size W w2 := B1.grown g2 B1.size (fun k hk => by cases hk; exact Nat.le_refl _)
  have B3 : Below W.heap.size W w3 := B2.grown g3 B2.size (fun k hk => by cases hk; exact Nat.le_refl _)
  have B4 : Below W.heap.size W w4 := B3.grown g4 B3.size (fun k hk => by cases hk; exact Nat.le_refl _)
  have B5 : Below W.heap.size W w5 := B4.grown g5 B4.size (fun k hk => by cases hk; exact Nat.le_refl _)
  have HB6 := Lib.hid (B5.grown g6 B5.size (fun k hk => by cases hk; exact Nat.le_refl _))
  have HX6 := Lib.hid ((show BoxN W w.heap.size d by rw [hW]; exact HX0.out).next HB6.out)
  have HBW := Lib.hid (below_next (show Below w.heap.size w W by rw [hW]; exact HB0.out) HB6.out)
  have h6 : b < w6.heap.size := Nat.lt_of_lt_of_le hlt HBW.out.size
  have C := Lib.hid (fun (s : ByteArray) (hs : s.size ≤ 10) => put33 b g w6.heap.size bs [s] (w6.alloc (.cells #[.string s] 9)) ((h.next HBW.out).next ((Below.refl _ _).alloc (Nat.le_refl _) _)) (heap_alloc_new _ _) (by omega) (by simp [catC, Lib.strCells_length]; omega) (by simp))
  have HWR := Lib.hid (fun s : ByteArray => Wrote.of (b := b) (HBW.out.alloc HBW.out.size (.cells #[.string s] 9)) (Nat.le_of_lt hlt))
  rw [hWs] at r1 r2 r3 r4 r5 r6 HL
  clear o1 o2 o3 o4 o5 o6 g1 g2 g3 g4 g5 g6 B1 B2 B3 B4 B5 s0 hbs h HM0
  obtain ⟨dk, dsA, dsn, dsc, dkA, dkn, dkc, dnum, dleast, dmost, dway, dfold⟩ := d
  unfold ND.agg
  unfold ND.box at hW HX0
  simp only at HX0 HX6 hk ⊢
  obtain ⟨x0, x1, x2, x3, x4, x5, x6, x7, x8⟩ := HX6.out
  obtain ⟨v0, v1, v2, v3, v4, v5, v6, v7, v8⟩ := HX0.out
  rw [← hW] at v0 v1 v2 v3 v4 v5 v6 v7 v8
  rcases hk with rfl | rfl | rfl | rfl | rfl | rfl
  · have hlk := HL.out 3 (by decide) [94] rfl
    have HC := Lib.hid (C.out ⟨#[94]⟩ (by decide))
    have HE := Lib.hid (show catC [⟨#[94]⟩] = Lib.byteCells (leafT 3) from rfl)
    clear HL C
    go_enter Tryd.func21, Tryd.ntmps21
    go_upto_region 2 with (fail)
    rw [← hW]
    clear hW
    go_wp2_with (go_at_call 33; refine HC.out.mono ?_; rintro e w' ⟨rfl, h1, h2⟩; have H1 := Lib.hid h1; have H2 := Lib.hid h2; clear h1 h2)
    go_end0
    exact ⟨rfl, by rw [← HE.out]; exact H1.out, (HWR.out _).trans H2.out⟩
  · have hlk := HL.out 4 (by decide) [36] rfl
    have HC := Lib.hid (C.out ⟨#[36]⟩ (by decide))
    have HE := Lib.hid (show catC [⟨#[36]⟩] = Lib.byteCells (leafT 4) from rfl)
    clear HL C
    go_enter Tryd.func21, Tryd.ntmps21
    go_upto_region 2 with (fail)
    rw [← hW]
    clear hW
    go_wp2_with (go_at_call 33; refine HC.out.mono ?_; rintro e w' ⟨rfl, h1, h2⟩; have H1 := Lib.hid h1; have H2 := Lib.hid h2; clear h1 h2)
    go_end0
    exact ⟨rfl, by rw [← HE.out]; exact H1.out, (HWR.out _).trans H2.out⟩
  · have hlk := HL.out 5 (by decide) [92, 65] rfl
    have HC := Lib.hid (C.out ⟨#[92, 65]⟩ (by decide))
    have HE := Lib.hid (show catC [⟨#[92, 65]⟩] = Lib.byteCells (leafT 5) from rfl)
    clear HL C
    go_enter Tryd.func21, Tryd.ntmps21
    go_upto_region 2 with (fail)
    rw [← hW]
    clear hW
    go_wp2_with (go_at_call 33; refine HC.out.mono ?_; rintro e w' ⟨rfl, h1, h2⟩; have H1 := Lib.hid h1; have H2 := Lib.hid h2; clear h1 h2)
    go_end0
    exact ⟨rfl, by rw [← HE.out]; exact H1.out, (HWR.out _).trans H2.out⟩
  · have hlk := HL.out 6 (by decide) [92, 122] rfl
    have HC := Lib.hid (C.out ⟨#[92, 122]⟩ (by decide))
    have HE := Lib.hid (show catC [⟨#[92, 122]⟩] = Lib.byteCells (leafT 6) from rfl)
    clear HL C
    go_enter Tryd.func21, Tryd.ntmps21
    go_upto_region 2 with (fail)
    rw [← hW]
    clear hW
    go_wp2_with (go_at_call 33; refine HC.out.mono ?_; rintro e w' ⟨rfl, h1, h2⟩; have H1 := Lib.hid h1; have H2 := Lib.hid h2; clear h1 h2)
    go_end0
    exact ⟨rfl, by rw [← HE.out]; exact H1.out, (HWR.out _).trans H2.out⟩
  · have hlk := HL.out 7 (by decide) [92, 98] rfl
    have HC := Lib.hid (C.out ⟨#[92, 98]⟩ (by decide))
    have HE := Lib.hid (show catC [⟨#[92, 98]⟩] = Lib.byteCells (leafT 7) from rfl)
    clear HL C
    go_enter Tryd.func21, Tryd.ntmps21
    go_upto_region 2 with (fail)
    rw [← hW]
    clear hW
    go_wp2_with (go_at_call 33; refine HC.out.mono ?_; rintro e w' ⟨rfl, h1, h2⟩; have H1 := Lib.hid h1; have H2 := Lib.hid h2; clear h1 h2)
    go_end0
    exact ⟨rfl, by rw [← HE.out]; exact H1.out, (HWR.out _).trans H2.out⟩
  · have hlk := HL.out 8 (by decide) [92, 66] rfl
    have HC := Lib.hid (C.out ⟨#[92, 66]⟩ (by decide))
    have HE := Lib.hid (show catC [⟨#[92, 66]⟩] = Lib.byteCells (leafT 8) from rfl)
    clear HL C
    go_enter Tryd.func21, Tryd.ntmps21
    go_upto_region 2 with (fail)
    rw [← hW]
    clear hW
    go_wp2_with (go_at_call 33; refine HC.out.mono ?_; rintro e w' ⟨rfl, h1, h2⟩; have H1 := Lib.hid h1; have H2 := Lib.hid h2; clear h1 h2)
    go_end0
    exact ⟨rfl, by rw [← HE.out]; exact H1.out, (HWR.out _).trans H2.out⟩
end Go.Proofs.YtbekjfoefjnidaaDoor
