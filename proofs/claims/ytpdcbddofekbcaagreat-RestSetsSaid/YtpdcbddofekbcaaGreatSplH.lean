/- packed of the program, for any points: walked. Printed by genH.py. -/
import Derived.Test.YtpdcbddofekbcaaGreatSplG2
import Derived.Test.YtpdcbddofekbcaaGreatSplG3
import Derived.Test.YtpdcbddofekbcaaGreatSplG4
import Derived.Test.YtpdcbddofekbcaaGreatSplD
namespace Go.Proofs.YtpdcbddofekbcaaGreat
open Go.RowKit
set_option linter.unusedVariables false
theorem RoadsP.up {w w1 w' : World} {Q : List (List (Int × Int)) → Prop} {e : Ending} (hb : Below w.heap.size w w1) (h : RoadsP w1 Q e w') : RoadsP w Q e w' := by
  obtain ⟨ls, hq, ho⟩ := h
  exact ⟨ls, hq, ho.up hb⟩
theorem cutC_1 {w : World} {pb pm pc gm B : Nat} {mk : Int} (h : CutE w pb pm pc gm B mk) (hl : CutL w pb pm pc gm) (hB : 2 ≤ B ∧ B ≤ 4) : CutC w pb pm pc gm 1 :=
  CutC.of fun w' hb c d h0 h1 h2 => cutL_1 c d B mk pb pm pc gm w' (h.below hl hb) hB ⟨h0, h1⟩ (by have h3 : d < 64 := h2; omega)
theorem cutC_2 {w : World} {pb pm pc gm B : Nat} {mk : Int} (h : CutE w pb pm pc gm B mk) (hl : CutL w pb pm pc gm) (hB : 3 ≤ B ∧ B ≤ 4) : CutC w pb pm pc gm 2 :=
  CutC.of fun w' hb c d h0 h1 h2 => cutL_2 c d B mk pb pm pc gm w' (h.below hl hb) (hl.below hb) h0 h1 (by have h3 : d < 4096 := h2; omega) (by omega) (cutC_1 (h.below hl hb) (hl.below hb) (by omega))
theorem cutC_3 {w : World} {pb pm pc gm B : Nat} {mk : Int} (h : CutE w pb pm pc gm B mk) (hl : CutL w pb pm pc gm) (hB : 4 ≤ B ∧ B ≤ 4) : CutC w pb pm pc gm 3 :=
  CutC.of fun w' hb c d h0 h1 h2 => cutL_3 c d B mk pb pm pc gm w' (h.below hl hb) (hl.below hb) h0 h1 (by have h3 : d < 262144 := h2; omega) (by omega) (cutC_2 (h.below hl hb) (hl.below hb) (by omega))
theorem pack_env_2 (w : World) : CutE ((((w.alloc (.cells #[.int .i64 2] 3)).alloc (.cells #[.int .i64 0, .int .i64 0, .int .i64 192, .int .i64 224, .int .i64 240] 3)).alloc (.cells #[.slice (some ⟨w.heap.size + 1, 0, none⟩) 5 5] 50)).alloc (.cells #[.func (.func 76) #[] #[.pointer (some ⟨w.heap.size, 0, none⟩), .pointer (some ⟨w.heap.size + 1 + 1, 0, none⟩), .pointer (some ⟨w.heap.size + 1 + 1 + 1, 0, none⟩)]] 67)) w.heap.size (w.heap.size + 1 + 1) (w.heap.size + 1 + 1 + 1) (w.heap.size + 1) 2 192 ∧ CutL ((((w.alloc (.cells #[.int .i64 2] 3)).alloc (.cells #[.int .i64 0, .int .i64 0, .int .i64 192, .int .i64 224, .int .i64 240] 3)).alloc (.cells #[.slice (some ⟨w.heap.size + 1, 0, none⟩) 5 5] 50)).alloc (.cells #[.func (.func 76) #[] #[.pointer (some ⟨w.heap.size, 0, none⟩), .pointer (some ⟨w.heap.size + 1 + 1, 0, none⟩), .pointer (some ⟨w.heap.size + 1 + 1 + 1, 0, none⟩)]] 67)) w.heap.size (w.heap.size + 1 + 1) (w.heap.size + 1 + 1 + 1) (w.heap.size + 1) := by
  have z1 : (w.alloc (.cells #[.int .i64 2] 3)).heap.size = w.heap.size + 1 := by simp
  have z2 : ((w.alloc (.cells #[.int .i64 2] 3)).alloc (.cells #[.int .i64 0, .int .i64 0, .int .i64 192, .int .i64 224, .int .i64 240] 3)).heap.size = w.heap.size + 1 + 1 := by simp
  have z3 : (((w.alloc (.cells #[.int .i64 2] 3)).alloc (.cells #[.int .i64 0, .int .i64 0, .int .i64 192, .int .i64 224, .int .i64 240] 3)).alloc (.cells #[.slice (some ⟨w.heap.size + 1, 0, none⟩) 5 5] 50)).heap.size = w.heap.size + 1 + 1 + 1 := by simp
  have z4 : ((((w.alloc (.cells #[.int .i64 2] 3)).alloc (.cells #[.int .i64 0, .int .i64 0, .int .i64 192, .int .i64 224, .int .i64 240] 3)).alloc (.cells #[.slice (some ⟨w.heap.size + 1, 0, none⟩) 5 5] 50)).alloc (.cells #[.func (.func 76) #[] #[.pointer (some ⟨w.heap.size, 0, none⟩), .pointer (some ⟨w.heap.size + 1 + 1, 0, none⟩), .pointer (some ⟨w.heap.size + 1 + 1 + 1, 0, none⟩)]] 67)).heap.size = w.heap.size + 1 + 1 + 1 + 1 := by simp
  refine ⟨⟨?_, ?_, ?_, ?_⟩, ?_⟩
  · rw [World.cell?_alloc_lt _ _ _ (by rw [z3]; show w.heap.size < _; omega), World.cell?_alloc_lt _ _ _ (by rw [z2]; show w.heap.size < _; omega), World.cell?_alloc_lt _ _ _ (by rw [z1]; show w.heap.size < _; omega)]
    exact cell_newb w _ _ _ 0 _ rfl rfl
  · rw [World.cell?_alloc_lt _ _ _ (by rw [z3]; show w.heap.size + 1 + 1 < _; omega)]
    exact cell_newb _ _ _ _ 0 _ z2 rfl
  · rw [World.cell?_alloc_lt _ _ _ (by rw [z3]; show w.heap.size + 1 < _; omega), World.cell?_alloc_lt _ _ _ (by rw [z2]; show w.heap.size + 1 < _; omega)]
    exact cell_newb _ _ _ _ 2 _ z1 rfl
  · exact cell_newb _ _ _ _ 0 _ z3 rfl
  · unfold CutL
    rw [z4]
    omega
set_option maxRecDepth 100000 in
set_option maxHeartbeats 1000000 in
theorem packedG_2 (a b : Int) (w : World) (ha : 0 ≤ a) (hab : a ≤ b) (hb : b ≤ 2047) : Calls Tryz.prog 56 #[.int .i64 a, .int .i64 b, .int .i64 2] w (RoadsP w fun ls => RC ls (ENum 64 128 192 1 a b) 2 (b - a + 1)) := by
  have EG := Lib.hid (show ∀ args w, (callFunc 76 args).run Tryz.prog w = .ok (.enter 76 args) w from enters_of Tryz.func76 (by kernel_rfl) rfl)
  have HE := Lib.hid (pack_env_2 w)
  have HB := Lib.hid (show Below w.heap.size w ((((w.alloc (.cells #[.int .i64 2] 3)).alloc (.cells #[.int .i64 0, .int .i64 0, .int .i64 192, .int .i64 224, .int .i64 240] 3)).alloc (.cells #[.slice (some ⟨w.heap.size + 1, 0, none⟩) 5 5] 50)).alloc (.cells #[.func (.func 76) #[] #[.pointer (some ⟨w.heap.size, 0, none⟩), .pointer (some ⟨w.heap.size + 1 + 1, 0, none⟩), .pointer (some ⟨w.heap.size + 1 + 1 + 1, 0, none⟩)]] 67)) by go_grown)
  go_enter Tryz.func56, Tryz.ntmps56
  go_wp2_with fail
  refine (cutT_2 192 a b _ _ _ _ _ HE.out.1 HE.out.2 ha hab (by omega) (by decide) (by omega) (cutC_1 HE.out.1 HE.out.2 (by omega))).mono ?_
  rintro e w1 ⟨ls, hq, A, n, c, vs, rfl, h1, h2, h3, h4, h6⟩
  have HV := Lib.hid (RoadsP.up (Q := fun ls => RC ls (ENum 64 128 192 1 a b) 2 (b - a + 1)) HB.out ⟨ls, hq, A, n, c, vs, rfl, h1, h2, h3, h4, h6⟩)
  go_wp2
  go_ret
  exact HV.out
theorem pack_env_3 (w : World) : CutE ((((w.alloc (.cells #[.int .i64 3] 3)).alloc (.cells #[.int .i64 0, .int .i64 0, .int .i64 192, .int .i64 224, .int .i64 240] 3)).alloc (.cells #[.slice (some ⟨w.heap.size + 1, 0, none⟩) 5 5] 50)).alloc (.cells #[.func (.func 76) #[] #[.pointer (some ⟨w.heap.size, 0, none⟩), .pointer (some ⟨w.heap.size + 1 + 1, 0, none⟩), .pointer (some ⟨w.heap.size + 1 + 1 + 1, 0, none⟩)]] 67)) w.heap.size (w.heap.size + 1 + 1) (w.heap.size + 1 + 1 + 1) (w.heap.size + 1) 3 224 ∧ CutL ((((w.alloc (.cells #[.int .i64 3] 3)).alloc (.cells #[.int .i64 0, .int .i64 0, .int .i64 192, .int .i64 224, .int .i64 240] 3)).alloc (.cells #[.slice (some ⟨w.heap.size + 1, 0, none⟩) 5 5] 50)).alloc (.cells #[.func (.func 76) #[] #[.pointer (some ⟨w.heap.size, 0, none⟩), .pointer (some ⟨w.heap.size + 1 + 1, 0, none⟩), .pointer (some ⟨w.heap.size + 1 + 1 + 1, 0, none⟩)]] 67)) w.heap.size (w.heap.size + 1 + 1) (w.heap.size + 1 + 1 + 1) (w.heap.size + 1) := by
  have z1 : (w.alloc (.cells #[.int .i64 3] 3)).heap.size = w.heap.size + 1 := by simp
  have z2 : ((w.alloc (.cells #[.int .i64 3] 3)).alloc (.cells #[.int .i64 0, .int .i64 0, .int .i64 192, .int .i64 224, .int .i64 240] 3)).heap.size = w.heap.size + 1 + 1 := by simp
  have z3 : (((w.alloc (.cells #[.int .i64 3] 3)).alloc (.cells #[.int .i64 0, .int .i64 0, .int .i64 192, .int .i64 224, .int .i64 240] 3)).alloc (.cells #[.slice (some ⟨w.heap.size + 1, 0, none⟩) 5 5] 50)).heap.size = w.heap.size + 1 + 1 + 1 := by simp
  have z4 : ((((w.alloc (.cells #[.int .i64 3] 3)).alloc (.cells #[.int .i64 0, .int .i64 0, .int .i64 192, .int .i64 224, .int .i64 240] 3)).alloc (.cells #[.slice (some ⟨w.heap.size + 1, 0, none⟩) 5 5] 50)).alloc (.cells #[.func (.func 76) #[] #[.pointer (some ⟨w.heap.size, 0, none⟩), .pointer (some ⟨w.heap.size + 1 + 1, 0, none⟩), .pointer (some ⟨w.heap.size + 1 + 1 + 1, 0, none⟩)]] 67)).heap.size = w.heap.size + 1 + 1 + 1 + 1 := by simp
  refine ⟨⟨?_, ?_, ?_, ?_⟩, ?_⟩
  · rw [World.cell?_alloc_lt _ _ _ (by rw [z3]; show w.heap.size < _; omega), World.cell?_alloc_lt _ _ _ (by rw [z2]; show w.heap.size < _; omega), World.cell?_alloc_lt _ _ _ (by rw [z1]; show w.heap.size < _; omega)]
    exact cell_newb w _ _ _ 0 _ rfl rfl
  · rw [World.cell?_alloc_lt _ _ _ (by rw [z3]; show w.heap.size + 1 + 1 < _; omega)]
    exact cell_newb _ _ _ _ 0 _ z2 rfl
  · rw [World.cell?_alloc_lt _ _ _ (by rw [z3]; show w.heap.size + 1 < _; omega), World.cell?_alloc_lt _ _ _ (by rw [z2]; show w.heap.size + 1 < _; omega)]
    exact cell_newb _ _ _ _ 3 _ z1 rfl
  · exact cell_newb _ _ _ _ 0 _ z3 rfl
  · unfold CutL
    rw [z4]
    omega
set_option maxRecDepth 100000 in
set_option maxHeartbeats 1000000 in
theorem packedG_3 (a b : Int) (w : World) (ha : 0 ≤ a) (hab : a ≤ b) (hb : b ≤ 65535) : Calls Tryz.prog 56 #[.int .i64 a, .int .i64 b, .int .i64 3] w (RoadsP w fun ls => RC ls (ENum 64 128 224 2 a b) 3 (b - a + 1)) := by
  have EG := Lib.hid (show ∀ args w, (callFunc 76 args).run Tryz.prog w = .ok (.enter 76 args) w from enters_of Tryz.func76 (by kernel_rfl) rfl)
  have HE := Lib.hid (pack_env_3 w)
  have HB := Lib.hid (show Below w.heap.size w ((((w.alloc (.cells #[.int .i64 3] 3)).alloc (.cells #[.int .i64 0, .int .i64 0, .int .i64 192, .int .i64 224, .int .i64 240] 3)).alloc (.cells #[.slice (some ⟨w.heap.size + 1, 0, none⟩) 5 5] 50)).alloc (.cells #[.func (.func 76) #[] #[.pointer (some ⟨w.heap.size, 0, none⟩), .pointer (some ⟨w.heap.size + 1 + 1, 0, none⟩), .pointer (some ⟨w.heap.size + 1 + 1 + 1, 0, none⟩)]] 67)) by go_grown)
  go_enter Tryz.func56, Tryz.ntmps56
  go_wp2_with fail
  refine (cutT_3 224 a b _ _ _ _ _ HE.out.1 HE.out.2 ha hab (by omega) (by decide) (by omega) (cutC_2 HE.out.1 HE.out.2 (by omega))).mono ?_
  rintro e w1 ⟨ls, hq, A, n, c, vs, rfl, h1, h2, h3, h4, h6⟩
  have HV := Lib.hid (RoadsP.up (Q := fun ls => RC ls (ENum 64 128 224 2 a b) 3 (b - a + 1)) HB.out ⟨ls, hq, A, n, c, vs, rfl, h1, h2, h3, h4, h6⟩)
  go_wp2
  go_ret
  exact HV.out
theorem pack_env_4 (w : World) : CutE ((((w.alloc (.cells #[.int .i64 4] 3)).alloc (.cells #[.int .i64 0, .int .i64 0, .int .i64 192, .int .i64 224, .int .i64 240] 3)).alloc (.cells #[.slice (some ⟨w.heap.size + 1, 0, none⟩) 5 5] 50)).alloc (.cells #[.func (.func 76) #[] #[.pointer (some ⟨w.heap.size, 0, none⟩), .pointer (some ⟨w.heap.size + 1 + 1, 0, none⟩), .pointer (some ⟨w.heap.size + 1 + 1 + 1, 0, none⟩)]] 67)) w.heap.size (w.heap.size + 1 + 1) (w.heap.size + 1 + 1 + 1) (w.heap.size + 1) 4 240 ∧ CutL ((((w.alloc (.cells #[.int .i64 4] 3)).alloc (.cells #[.int .i64 0, .int .i64 0, .int .i64 192, .int .i64 224, .int .i64 240] 3)).alloc (.cells #[.slice (some ⟨w.heap.size + 1, 0, none⟩) 5 5] 50)).alloc (.cells #[.func (.func 76) #[] #[.pointer (some ⟨w.heap.size, 0, none⟩), .pointer (some ⟨w.heap.size + 1 + 1, 0, none⟩), .pointer (some ⟨w.heap.size + 1 + 1 + 1, 0, none⟩)]] 67)) w.heap.size (w.heap.size + 1 + 1) (w.heap.size + 1 + 1 + 1) (w.heap.size + 1) := by
  have z1 : (w.alloc (.cells #[.int .i64 4] 3)).heap.size = w.heap.size + 1 := by simp
  have z2 : ((w.alloc (.cells #[.int .i64 4] 3)).alloc (.cells #[.int .i64 0, .int .i64 0, .int .i64 192, .int .i64 224, .int .i64 240] 3)).heap.size = w.heap.size + 1 + 1 := by simp
  have z3 : (((w.alloc (.cells #[.int .i64 4] 3)).alloc (.cells #[.int .i64 0, .int .i64 0, .int .i64 192, .int .i64 224, .int .i64 240] 3)).alloc (.cells #[.slice (some ⟨w.heap.size + 1, 0, none⟩) 5 5] 50)).heap.size = w.heap.size + 1 + 1 + 1 := by simp
  have z4 : ((((w.alloc (.cells #[.int .i64 4] 3)).alloc (.cells #[.int .i64 0, .int .i64 0, .int .i64 192, .int .i64 224, .int .i64 240] 3)).alloc (.cells #[.slice (some ⟨w.heap.size + 1, 0, none⟩) 5 5] 50)).alloc (.cells #[.func (.func 76) #[] #[.pointer (some ⟨w.heap.size, 0, none⟩), .pointer (some ⟨w.heap.size + 1 + 1, 0, none⟩), .pointer (some ⟨w.heap.size + 1 + 1 + 1, 0, none⟩)]] 67)).heap.size = w.heap.size + 1 + 1 + 1 + 1 := by simp
  refine ⟨⟨?_, ?_, ?_, ?_⟩, ?_⟩
  · rw [World.cell?_alloc_lt _ _ _ (by rw [z3]; show w.heap.size < _; omega), World.cell?_alloc_lt _ _ _ (by rw [z2]; show w.heap.size < _; omega), World.cell?_alloc_lt _ _ _ (by rw [z1]; show w.heap.size < _; omega)]
    exact cell_newb w _ _ _ 0 _ rfl rfl
  · rw [World.cell?_alloc_lt _ _ _ (by rw [z3]; show w.heap.size + 1 + 1 < _; omega)]
    exact cell_newb _ _ _ _ 0 _ z2 rfl
  · rw [World.cell?_alloc_lt _ _ _ (by rw [z3]; show w.heap.size + 1 < _; omega), World.cell?_alloc_lt _ _ _ (by rw [z2]; show w.heap.size + 1 < _; omega)]
    exact cell_newb _ _ _ _ 4 _ z1 rfl
  · exact cell_newb _ _ _ _ 0 _ z3 rfl
  · unfold CutL
    rw [z4]
    omega
set_option maxRecDepth 100000 in
set_option maxHeartbeats 1000000 in
theorem packedG_4 (a b : Int) (w : World) (ha : 0 ≤ a) (hab : a ≤ b) (hb : b ≤ 1114111) : Calls Tryz.prog 56 #[.int .i64 a, .int .i64 b, .int .i64 4] w (RoadsP w fun ls => RC ls (ENum 64 128 240 3 a b) 4 (b - a + 1)) := by
  have EG := Lib.hid (show ∀ args w, (callFunc 76 args).run Tryz.prog w = .ok (.enter 76 args) w from enters_of Tryz.func76 (by kernel_rfl) rfl)
  have HE := Lib.hid (pack_env_4 w)
  have HB := Lib.hid (show Below w.heap.size w ((((w.alloc (.cells #[.int .i64 4] 3)).alloc (.cells #[.int .i64 0, .int .i64 0, .int .i64 192, .int .i64 224, .int .i64 240] 3)).alloc (.cells #[.slice (some ⟨w.heap.size + 1, 0, none⟩) 5 5] 50)).alloc (.cells #[.func (.func 76) #[] #[.pointer (some ⟨w.heap.size, 0, none⟩), .pointer (some ⟨w.heap.size + 1 + 1, 0, none⟩), .pointer (some ⟨w.heap.size + 1 + 1 + 1, 0, none⟩)]] 67)) by go_grown)
  go_enter Tryz.func56, Tryz.ntmps56
  go_wp2_with fail
  refine (cutT_4 240 a b _ _ _ _ _ HE.out.1 HE.out.2 ha hab (by omega) (by decide) (by omega) (cutC_3 HE.out.1 HE.out.2 (by omega))).mono ?_
  rintro e w1 ⟨ls, hq, A, n, c, vs, rfl, h1, h2, h3, h4, h6⟩
  have HV := Lib.hid (RoadsP.up (Q := fun ls => RC ls (ENum 64 128 240 3 a b) 4 (b - a + 1)) HB.out ⟨ls, hq, A, n, c, vs, rfl, h1, h2, h3, h4, h6⟩)
  go_wp2
  go_ret
  exact HV.out
end Go.Proofs.YtpdcbddofekbcaaGreat
