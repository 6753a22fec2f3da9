/-
  Each point of the fixed text that every statement of this layer begins with, walked.
-/
import Derived.Test.YtlgpnofkfpeacaaEncH
namespace Go.Proofs.Ytlgpnofkfpeacaa
open Go.RowKit
set_option linter.unusedVariables false
theorem ret_pair {a b c d : Int} (h : a = c) (k : b = d) : Ending.returned (.tuple #[.int .i64 a, .int .i64 b]) = .returned (.tuple #[.int .i64 c, .int .i64 d]) := by rw [h, k]
set_option maxHeartbeats 1000000 in
theorem unit_a (w : World) : Calls Try.prog 60 #[.agg #[.bool true], .string ⟨#[61, 216, 0, 222, 65, 0]⟩] w fun e w' => e = .returned (.int .i64 55357) ∧ Below w.heap.size w w' := by
  go_enter Try.func60, Try.ntmps60
  go_wp2
  go_quiet (fail)
  go_wp2
  go_ret
  exact ⟨ret_int (by decide +kernel), below_drewN (by go_grown) _⟩
set_option maxHeartbeats 1000000 in
theorem unit_b (w : World) : Calls Try.prog 60 #[.agg #[.bool true], .string ⟨#[0, 222, 65, 0]⟩] w fun e w' => e = .returned (.int .i64 56832) ∧ Below w.heap.size w w' := by
  go_enter Try.func60, Try.ntmps60
  go_wp2
  go_quiet (fail)
  go_wp2
  go_ret
  exact ⟨ret_int (by decide +kernel), below_drewN (by go_grown) _⟩
set_option maxHeartbeats 1000000 in
theorem unit_c (w : World) : Calls Try.prog 60 #[.agg #[.bool true], .string ⟨#[65, 0]⟩] w fun e w' => e = .returned (.int .i64 65) ∧ Below w.heap.size w w' := by
  go_enter Try.func60, Try.ntmps60
  go_wp2
  go_quiet (fail)
  go_wp2
  go_ret
  exact ⟨ret_int (by decide +kernel), below_drewN (by go_grown) _⟩
set_option maxHeartbeats 1000000 in
theorem first_b (w : World) : Calls Try.prog 57 #[.agg #[.bool true], .string ⟨#[65, 0]⟩] w fun e w' => e = .returned (.tuple #[.int .i64 65, .int .i64 2]) ∧ Below w.heap.size w w' := by
  go_enter Try.func57, Try.ntmps57
  go_wp2_with (go_at_call 60; refine (unit_c _).mono ?_; rintro e w1 ⟨rfl, hb⟩)
  go_ret2
  exact ⟨rfl, Below.trans (by go_grown) (hb.mono (by simp))⟩
set_option maxHeartbeats 1000000 in
theorem first_a (w : World) : Calls Try.prog 57 #[.agg #[.bool true], .string ⟨#[61, 216, 0, 222, 65, 0]⟩] w fun e w' => e = .returned (.tuple #[.int .i64 128512, .int .i64 4]) ∧ Below w.heap.size w w' := by
  go_enter Try.func57, Try.ntmps57
  go_wp2_with (go_at_call 60; refine (unit_a _).mono ?_; rintro e w1 ⟨rfl, hb⟩; have hc1 : w1.cell? ⟨w.heap.size, 0, none⟩ = some (.bool true) := (by rw [hb.cell (p := ⟨w.heap.size, 0, none⟩) (by simp)]; simp); have hz := hb.size)
  have hx : ByteArray.extract ⟨#[61, 216, 0, 222, 65, 0]⟩ 2 6 = ⟨#[0, 222, 65, 0]⟩ := by rfl
  go_region_held3 (fun w' => w'.cell? ⟨w.heap.size, 0, none⟩ = some (.bool true) ∧ w.heap.size + 1 ≤ w'.heap.size ∧ Below w.heap.size w w')
    (first
      | (exact ⟨hc1, by simpa using hz, Below.trans (by go_grown) (hb.mono (by simp))⟩)
      | (exact ⟨by simpa using hc1, by simpa using hz, below_drewN (n := 1) (Below.trans (by go_grown) (hb.mono (by simp)))⟩)
      | (go_split_ands; exact held1 (by assumption) (by assumption) (by assumption) hb2)
      | (go_split_ands; trace_state; fail))
    (first
      | (go_at_call 60; (with_reducible refine (unit_b _).mono ?_); rintro e w2 ⟨rfl, hb2⟩))
  go_wp2
  go_ret2
  go_split_ands
  refine ⟨ret_pair (by decide +kernel) rfl, ?_⟩
  assumption
theorem nil_first16 (b : Bool) (w : World) : (nilAhead 189 61 (.agg #[.bool b]) "thicket/encode.first").run Try.prog w = .ok (some false) w := by kernel_rfl
theorem method_first16 (b : Bool) (w : World) : (method 189 61 (.agg #[.bool b]) "thicket/encode.first").run Try.prog w = .ok (57, .agg #[.bool b]) w := by kernel_rfl
def fnDec (g : Nat) : Value := .func (.func 24) #[] #[.pointer (some ⟨g, 0, none⟩)]
set_option maxHeartbeats 2000000 in
theorem each_beg (g base : Nat) (w : World) (hc : w.cell? ⟨g, 0, none⟩ = some (.slice none 0 0)) (hf : w.frozen? ⟨g, 0, none⟩ = false) (hg : g < base) (hb : base ≤ w.heap.size) :
    Calls Try.prog 23 #[.int .i64 2, .string ⟨#[61, 216, 0, 222, 65, 0]⟩, .func (.func 24) #[] #[.pointer (some ⟨g, 0, none⟩)]] w fun e w' => e = .returned (.agg #[.int .i64 0, .int .i64 0]) ∧
      ∃ v', w'.cell? ⟨g, 0, none⟩ = some v' ∧ w'.ownsRow base 3 1 v' 2 (ints [128512, 65]) ∧ Below g w w' := by
  have hnil := nil_first16
  have hmet := method_first16
  go_enter Try.func23, Try.ntmps23
  go_wp2_with (go_at_call 25; refine (of_2 _).mono ?_; rintro e w' ⟨rfl, rfl⟩)
  go_loopw [8] (fun i wr => ∃ v, (i = .int .i64 0 ∧ ER w g base w.heap.size 0 [] wr v) ∨ (i = .int .i64 4 ∧ ER w g base w.heap.size 1 [128512] wr v) ∨ (i = .int .i64 6 ∧ ER w g base w.heap.size 2 [128512, 65] wr v)) (fun i _ => 6 - (intOf i).toNat)
  case atStart => exact ⟨_, .inl ⟨rfl, by rw [World.frozen?_of_block (w := w) (a := ⟨g, 0, none⟩) (Below.heap_alloc w _ g (by omega))]; exact hf, by simp, heap_alloc_new w _, (Below.refl _ _).alloc (by omega) _, by rw [World.cell?_alloc_lt w _ ⟨g, 0, none⟩ (by simp; omega)]; exact hc, World.ownsRow_nil _ _ _ _, by simp [Value.ownBlock]⟩⟩
  case round =>
    obtain ⟨v, h | h | h⟩ := hrel
    · obtain ⟨rfl, hER⟩ := h
      have hx : ByteArray.extract ⟨#[61, 216, 0, 222, 65, 0]⟩ 0 6 = ⟨#[61, 216, 0, 222, 65, 0]⟩ := by rfl
      have HER := Lib.hid hER
      have hgs : g < wr.heap.size := by have := hER.2.1; omega
      clear hER
      go_wp2_with fail
      obtain ⟨wo, hwo⟩ : ∃ wo, wo = wr := ⟨_, rfl⟩
      have HO := Lib.hid hwo
      clear hwo
      go_region_held3 (fun w' => Below wo.heap.size wo w')
        (first
          | (rw [HO.out]; exact Below.refl _ _)
          | (rw [HO.out]; exact (Below.refl _ _).drew)
          | (refine Below.trans (by assumption) (hb2.mono (Below.size (by assumption))))
          | (trace_state; fail))
        (first
          | (go_at_call 57; (with_reducible refine (first_a _).mono ?_); rintro e w2 ⟨rfl, hb2⟩))
      clear hx
      go_wp2_with fail
      have hb3 : Below wr.heap.size wr w2 := by rw [← HO.out]; assumption
      have hE2 := HER.out.below hgs hb3
      refine (clo24 128512 _ g 0 base v [] w2 hE2.2.2.2.2.1 hE2.1 hE2.2.2.2.2.2.1 hg (by have := hE2.2.1; omega) (by omega)).mono ?_
      rintro e w3 ⟨rfl, v3, c1, c2, c3, c4, c5, c6⟩
      have hE3 := hE2.step (by omega) c1 c2 c3 c4 c5 c6
      have HE3 := Lib.hid hE3
      clear c1 c2 c3 c4 c5 c6 hE2 hE3 hb3 HO
      go_wp2
      go_roundw
      case rel => exact ⟨v3, .inr (.inl ⟨rfl, HE3.out⟩)⟩
      case measure => simp [intOf]
    · obtain ⟨rfl, hER⟩ := h
      have hx : ByteArray.extract ⟨#[61, 216, 0, 222, 65, 0]⟩ 4 6 = ⟨#[65, 0]⟩ := by rfl
      have HER := Lib.hid hER
      have hgs : g < wr.heap.size := by have := hER.2.1; omega
      clear hER
      go_wp2_with fail
      obtain ⟨wo, hwo⟩ : ∃ wo, wo = wr := ⟨_, rfl⟩
      have HO := Lib.hid hwo
      clear hwo
      go_region_held3 (fun w' => Below wo.heap.size wo w')
        (first
          | (rw [HO.out]; exact Below.refl _ _)
          | (rw [HO.out]; exact (Below.refl _ _).drew)
          | (refine Below.trans (by assumption) (hb2.mono (Below.size (by assumption))))
          | (trace_state; fail))
        (first
          | (go_at_call 57; (with_reducible refine (first_b _).mono ?_); rintro e w2 ⟨rfl, hb2⟩))
      clear hx
      go_wp2_with fail
      have hb3 : Below wr.heap.size wr w2 := by rw [← HO.out]; assumption
      have hE2 := HER.out.below hgs hb3
      refine (clo24 65 _ g 1 base v [128512] w2 hE2.2.2.2.2.1 hE2.1 hE2.2.2.2.2.2.1 hg (by have := hE2.2.1; omega) (by omega)).mono ?_
      rintro e w3 ⟨rfl, v3, c1, c2, c3, c4, c5, c6⟩
      have hE3 := hE2.step (by omega) c1 c2 c3 c4 c5 c6
      have HE3 := Lib.hid hE3
      clear c1 c2 c3 c4 c5 c6 hE2 hE3 hb3 HO
      go_wp2
      go_roundw
      case rel => exact ⟨v3, .inr (.inr ⟨rfl, HE3.out⟩)⟩
      case measure => simp [intOf]
    · obtain ⟨rfl, hER⟩ := h
      obtain ⟨k0, k0'⟩ := blk_cell hER.2.2.1 0
      obtain ⟨k1, k1'⟩ := blk_cell hER.2.2.1 1
      have HER := Lib.hid hER
      clear hER
      go_wp2
      obtain ⟨q1, q2, q3, q5, q6, q7, q8⟩ := HER.out
      have z0 : ((wr.setCell ⟨w.heap.size, 0, none⟩ (.int .i64 0)).setCell ⟨w.heap.size, 1, none⟩ (.int .i64 0)).cell? ⟨w.heap.size, 0, none⟩ = some (.int .i64 0) := by
        rw [World.cell?_setCell_other _ _ _ _ (by simp)]; exact World.cell?_setCell_same _ _ _ k0
      have z1 : ((wr.setCell ⟨w.heap.size, 0, none⟩ (.int .i64 0)).setCell ⟨w.heap.size, 1, none⟩ (.int .i64 0)).cell? ⟨w.heap.size, 1, none⟩ = some (.int .i64 0) :=
        World.cell?_setCell_same _ _ _ (by rw [World.cell?_setCell_other _ _ _ _ (by simp)]; exact k1)
      refine bodyPost_ret (v := .agg #[.int .i64 0, .int .i64 0]) (by simp [results, Try.results23, go_sem, z0, z1]) rfl ⟨rfl, v, ?_, ?_, ?_⟩
      · rw [World.cell?_setCell_other _ _ _ _ (fun e => by injection e; omega), World.cell?_setCell_other _ _ _ _ (fun e => by injection e; omega)]; exact q6
      · exact own_setCell_far (own_setCell_far q7 q8 _) q8 _
      · exact (q5.setCell (by simp; omega) _).setCell (by simp; omega) _
end Go.Proofs.Ytlgpnofkfpeacaa
