/- An expression of single points has these and no others: walked. -/
import Derived.Test.YtoilhjpbkbdifaaGreatBrJ
set_option linter.unusedVariables false
set_option linter.unusedSimpArgs false
namespace Go.Proofs.YtoilhjpbkbdifaaGreat
open Go.RowKit
theorem begun_spans : Spans [97, 45, 99, 93] 0 [(97, 99)] 3 :=
  .two 97 99 rfl (by unfold Aln; omega) rfl rfl (by unfold Aln; omega) (by omega) (.done rfl)
theorem begun_set {out : List (Int × Int)} (h : IsSet out (mem [(97, 99)])) : out = [(97, 99)] :=
  IsSet.eq h (show IsSet [(97, 99)] (mem [(97, 99)]) from ⟨by simp [Can]; decide, fun _ => Iff.rfl⟩) fun _ => Iff.rfl
set_option maxHeartbeats 4000000 in
set_option maxRecDepth 100000 in
theorem begun4 (HSORT : Hid SortC) (w : World) : Calls Tryz.prog 4 #[] w fun e w' => e = .returned (.bool true) ∧ Below w.heap.size w w' := by
  obtain ⟨W, hW⟩ : ∃ X, X = w.alloc (.cells #[.int .i64 97, .int .i64 45, .int .i64 99, .int .i64 93] 3) := ⟨_, rfl⟩
  have hB : Below w.heap.size w W := by rw [hW]; exact (Below.refl _ _).alloc (Nat.le_refl _) _
  have hA : Rds W W.heap.size 1 (some ⟨w.heap.size, 0, none⟩) 4 (ints [97, 45, 99, 93]) := by
    have := Rds.new w 1 4 #[.int .i64 97, .int .i64 45, .int .i64 99, .int .i64 93] 3 (ints [97, 45, 99, 93]) rfl rfl
    rw [hW]; simpa using this
  have C := Lib.hid (parse_good HSORT (d := 1) (c := 4) (w := W) (by omega) (by omega) (by decide) begun_spans (by simp) (by simp) (by omega) (by omega) hA)
  have HB := Lib.hid hB
  have HSZ := Lib.hid (show W.heap.size = w.heap.size + 1 by rw [hW]; simp)
  rw [hW] at C
  have HWW := Lib.hid hW
  clear hA hB hW
  go_enter Tryz.func4, Tryz.ntmps4
  go_upto_region 2 with (go_at_call 6; (with_reducible refine C.out.mono ?_); rintro e w2 ⟨out, A', n', hset, hln, rfl, hr, hb⟩; rw [← HWW.out] at hb; have HO := Lib.hid (begun_set hset); have HR2 := Lib.hid hr; have HB2 := Lib.hid (HB.out.trans (hb.mono (by have := HSZ.out; omega))); clear hset hr hb)
  obtain ⟨X, hX⟩ : ∃ X, X = w2.alloc (.cells #[.int .i64 0, .int .i64 0] 30) := ⟨_, rfl⟩
  have hbx : Below w2.heap.size w2 X := by rw [hX]; exact (Below.refl _ _).alloc (Nat.le_refl _) _
  have HBX := Lib.hid (HB2.out.trans (hbx.mono HB2.out.size))
  have HRX := Lib.hid ((HR2.out.below hbx (Nat.le_refl _)).more (B' := X.heap.size) hbx.size)
  have hz := (show X.heap[w2.heap.size]? = some (.cells #[.int .i64 0, .int .i64 0] 30 (0, 0)) by rw [hX]; exact heap_alloc_new w2 _)
  have f0 := cell_of_row _ _ 0 _ _ _ hz
  rw [← hX]
  have hn1 : n' = 1 := by have := HRX.out.rngs_len; rw [HO.out] at this; simpa using this.symm
  have HN1 := Lib.hid (show n' ≤ maxLen by rw [hn1]; unfold maxLen; omega)
  clear hX hbx HR2 HB2 hz hn1
  go_wp2_with (go_at_call 7; (with_reducible refine (sameSet_any out [(97, 99)] A' (some ⟨X.heap.size, 0, none⟩) n' 1 n' 1 (X.alloc (.cells #[.int .i64 97, .int .i64 99] 27)) X.heap.size (X.heap.size + 1) HN1.out (by unfold maxLen; omega) (HRX.out.alloc (Nat.le_refl _) _) (by have := Rds.new X 2 1 #[.int .i64 97, .int .i64 99] 27 (rngs [(97, 99)]) rfl rfl; simpa using this)).mono ?_); rintro e w5 ⟨rfl, q5, rfl⟩)
  go_ret
  exact ⟨ret_bool (by simp [sameS, HO.out]), below_drewN (HBX.out.alloc HBX.out.size _) _⟩
end Go.Proofs.YtoilhjpbkbdifaaGreat
