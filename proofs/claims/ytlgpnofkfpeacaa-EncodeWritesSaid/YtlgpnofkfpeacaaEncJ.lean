/-
  The statement EncodeWrites, walked: whatever it is handed, it answers true and leaves all memory that was there as it was.
-/
import Derived.Test.YtlgpnofkfpeacaaEncI
namespace Go.Proofs.Ytlgpnofkfpeacaa
open Go.RowKit
set_option linter.unusedVariables false
set_option maxHeartbeats 1000000 in
theorem decode_beg (w : World) :
    Calls Try.prog 11 #[.int .i64 2, .string ⟨#[61, 216, 0, 222, 65, 0]⟩] w fun e w' => ∃ A c, e = .returned (.tuple #[.slice A 2 c, .agg #[.int .i64 0, .int .i64 0]]) ∧ w'.ownsRow w.heap.size 3 1 (.slice A 2 c) 2 (ints [128512, 65]) ∧ Below w.heap.size w w' := by
  go_enter Try.func11, Try.ntmps11
  go_wp2_with fail
  refine (each_beg (w.heap.size + 1) (w.heap.size + 2) _ (by simp) (by simp) (by omega) (by simp)).mono ?_
  rintro e w1 ⟨rfl, v, hc, hown, hb⟩
  obtain ⟨A, c, rfl, q1, q2⟩ := own_slice hown
  have hr : w1.heap[w.heap.size]? = some (.cells #[.int .i64 0, .int .i64 0] 25 (0, 0)) := by
    rw [hb.block w.heap.size (by omega), Below.heap_alloc _ _ _ (by simp)]
    exact heap_alloc_new w _
  have hz := hb.size
  simp at hz
  obtain ⟨k0, k0'⟩ := blk_cell hr 0
  obtain ⟨k1, k1'⟩ := blk_cell hr 1
  have hl0 : w.heap.size < w1.heap.size := by omega
  have hl1 : w.heap.size + 1 < w1.heap.size := by omega
  have HB := Lib.hid hb
  have HR := Lib.hid hr
  clear hb hr
  go_wp2
  have hown' := (own_setCell_far (own_setCell_far hown (a := ⟨w.heap.size, 0, none⟩) (fun e => absurd (hown.lt _ e).1 (by simp)) (.int .i64 0)) (a := ⟨w.heap.size, 1, none⟩) (fun e => absurd (hown.lt _ e).1 (by simp)) (.int .i64 0)).alloc (.cells #[.int .i64 0, .int .i64 0] 25)
  have z0 : (((w1.setCell ⟨w.heap.size, 0, none⟩ (.int .i64 0)).setCell ⟨w.heap.size, 1, none⟩ (.int .i64 0)).alloc (.cells #[.int .i64 0, .int .i64 0] 25)).cell? ⟨w.heap.size, 0, none⟩ = some (.int .i64 0) := by
    rw [World.cell?_alloc_lt _ _ ⟨w.heap.size, 0, none⟩ (by simpa using hl0), World.cell?_setCell_other _ _ _ _ (by simp)]; exact World.cell?_setCell_same _ _ _ k0
  have z1 : (((w1.setCell ⟨w.heap.size, 0, none⟩ (.int .i64 0)).setCell ⟨w.heap.size, 1, none⟩ (.int .i64 0)).alloc (.cells #[.int .i64 0, .int .i64 0] 25)).cell? ⟨w.heap.size, 1, none⟩ = some (.int .i64 0) := by
    rw [World.cell?_alloc_lt _ _ ⟨w.heap.size, 1, none⟩ (by simpa using hl0)]; exact World.cell?_setCell_same _ _ _ (by rw [World.cell?_setCell_other _ _ _ _ (by simp)]; exact k1)
  refine bodyPost_ret (v := .tuple #[.slice A 2 c, .agg #[.int .i64 0, .int .i64 0]]) (by simp [results, Try.results11, go_sem, z0, z1]) rfl ⟨A, c, rfl, own_mono hown' (by omega), ?_⟩
  have B1 : Below w.heap.size w w1 := Below.trans (by go_grown) (HB.out.mono (by omega))
  exact ((B1.setCell (Nat.le_refl _) _).setCell (Nat.le_refl _) _).alloc (by simp; omega) _
theorem enc_beg : encE 2 [128512, 65] = (⟨#[61, 216, 0, 222, 65, 0]⟩, 0) := by rfl
set_option maxHeartbeats 1000000 in
theorem begun_any (w : World) : Calls Try.prog 13 #[] w fun e w' => e = .returned (.bool true) ∧ Below w.heap.size w w' := by
  have R := Lib.hid (Rds.new w 1 2 #[.int .i64 128512, .int .i64 65] 3 (ints [128512, 65]) rfl rfl)
  have HE := Lib.hid enc_beg
  go_enter Try.func13, Try.ntmps13
  go_wp2_with fail
  refine (encode_any 2 [128512, 65] _ 2 2 _ (by omega) (by decide) (by simpa using R.out)).mono ?_
  rintro e w1 ⟨rfl, hb1⟩
  rw [HE.out]
  go_wp2_with fail
  refine (decode_beg _).mono ?_
  rintro e w2 ⟨A, c, rfl, hown, hb2⟩
  go_wp2_with fail
  have ra := ((Rds.of_own hown).alloc (Nat.le_refl _) (.cells #[.int .i64 0, .int .i64 0] 25)).alloc (by simp) (.cells #[.int .i64 128512, .int .i64 65] 3)
  have rb := Rds.new (w2.alloc (.cells #[.int .i64 0, .int .i64 0] 25)) 1 2 #[.int .i64 128512, .int .i64 65] 3 (ints [128512, 65]) rfl rfl
  refine (sameInts_any [128512, 65] [128512, 65] A (some ⟨w2.heap.size + 1, 0, none⟩) 2 2 c 2 _ 0 (Nat.zero_le _) (by decide) (by decide) (ra.more (by simp; omega)) (by simpa using rb)).mono ?_
  rintro e w3 ⟨rfl, hb3⟩
  rw [show sameB [128512, 65] [128512, 65] = true from rfl]
  clear ra rb hown
  go_wp2
  go_ret
  refine ⟨rfl, ?_⟩
  have s1 := hb1.size
  have s2 := hb2.size
  simp at s1
  have B1 : Below w.heap.size w w1 := Below.trans (by go_grown) (hb1.mono (by simp))
  exact ((B1.trans (hb2.mono (by omega))).trans (by go_grown)).trans (hb3.mono (by simp; omega))
set_option maxHeartbeats 1000000 in
theorem law_walk (enc : Int) (l : List Int) (A : Option Addr) (n c : Nat) (w : World) (hn : n ≤ c) (hc : c ≤ maxLen) (hl : Rds w w.heap.size 1 A n (ints l)) :
    Calls Try.prog 4 #[.int .i64 enc, .slice A n c] w fun e w' => e = .returned (.bool true) ∧ Below w.heap.size w w' := by
  have HT := Lib.hid (encE_textE enc l)
  obtain ⟨r, hr⟩ : ∃ r, r = textE enc l := ⟨_, rfl⟩
  rw [← hr] at HT
  have HR := Lib.hid hr
  clear hr
  go_enter Try.func4, Try.ntmps4
  go_wp2_with fail
  refine (encode_any enc l A n c _ hn hc hl).mono ?_
  rintro e w1 ⟨rfl, hb1⟩
  rw [HT.out]
  obtain ⟨s, q⟩ := r
  go_wp2_with fail
  refine (text_any enc l A n c _ hn hc ((hl.below hb1 (Nat.le_refl _)).more hb1.size)).mono ?_
  rintro e w2 ⟨rfl, hb2⟩
  rw [← HR.out]
  go_wp2_with fail
  refine (begun_any _).mono ?_
  rintro e w3 ⟨rfl, hb3⟩
  have s1 := hb1.size
  have s2 := hb2.size
  go_wp2
  go_ret
  exact ⟨rfl, (hb1.trans (hb2.mono s1)).trans (hb3.mono (by omega))⟩
end Go.Proofs.Ytlgpnofkfpeacaa
